/- Part 51. -/
import Derived.Test.YtagabiidbbhhmaaGreatEB19
namespace Go.Proofs.YtagabiidbbhhmaaGreat
set_option maxHeartbeats 12800000
set_option linter.all false
open Go.RowKit
set_option maxRecDepth 100000 in
theorem vY {w:World} {v:Value} {f:FuncD} (hv:fJ w v f) (hsm:(eQ f).length <= 4398046511104):Calls Tryz.prog 52 #[v] w (aEX (eQ f) w):=by
 obtain ⟨ap,cp,ab,cb,rfl,hp,ha,hc,hB⟩:=hv.form
 obtain ⟨a1,c1,pb,po,hpe,hpc,hpm,hpa,hpx⟩:=hp.parts
 cases hpe
 obtain ⟨a2,c2,bb,bo,hbe,hbc,hbm,hbl,hba,hbx⟩:=eU hB
 cases hbe
 have HSM:Hid (∀ j x,f.blocks[j]? = some x -> (parT f.params ++ (f.blocks.take j).flatMap gL).length+(x.phis.flatMap defP).length+(x.code.flatMap defI).length <= 4398046511104):=h! (fun j x hj=>by
  have h1:=gG gL f.blocks (j+1)
  rw [fP _ _ _ _ hj,aI,lJ x,aI] at h1
  have h2:(eQ f).length=(parT f.params).length+(f.blocks.flatMap gL).length:=by unfold eQ lW;rw [aI]
  rw [aI]
  omega)
 have hnp2:f.params.length <= 4398046511104:=by
  have h2:(eQ f).length=(parT f.params).length+(f.blocks.flatMap gL).length:=by unfold eQ lW;rw [aI]
  have h3:(parT f.params).length=f.params.length:=by unfold parT;simp
  omega
 have HVF:Hid (eQ f=parT f.params ++ f.blocks.flatMap gL):=h! rfl
 obtain ⟨np,hnp⟩ : ∃ np,np=f.params.length:=⟨_,rfl⟩
 obtain ⟨nb,hnb⟩ : ∃ nb,nb=f.blocks.length:=⟨_,rfl⟩
 rw [<-hnp] at hpc hpa hpx hnp2 ⊢
 rw [<-hnb] at hbc hba hbl ⊢
 have HNP:=h! hnp
 have HNB:=h! hnb
 have HPA:=h! hpa
 have HPX:=h! hpx
 have HBA:=h! hba
 have HBX:=h! hbx
 clear hp ha hc hB hv hsm hpa hpx hba hbx hnp hnb
 generalize f.arrays=ar at *
 generalize f.cells=ce at *
 go_enter Tryz.func52,Tryz.ntmps52
 go_upto_region 1 with (fail)
 have hA_:=(Below.refl w.heap.size w).alloc (aA _) (.cells #[.slice ap np cp,.int .i64 ar,.int .i64 ce,.slice ab nb cb] 25)
 have HW:=h! hA_
 clear hA_
 have B1:=h! (Box.new w #[.slice ap np cp,.int .i64 ar,.int .i64 ce,.slice ab nb cb] 25)
 generalize w.alloc (.cells #[.slice ap np cp,.int .i64 ar,.int .i64 ce,.slice ab nb cb] 25)=wv at *
 obtain ⟨lB1,cB1,fB1⟩:=B1.out
 go_wp2_with fail
 have HO:Hid (Own (wv.alloc (.cells #[] 104)) w.heap.size [w.heap.size] 104 2 (.slice (some ⟨wv.heap.size,0,none⟩) 0 0) 0 []):=h! (jO HW.out.size (by intro b hb;simp at hb;omega) 2)
 have hbA:=(Below.refl wv.heap.size wv).alloc (aA _) (.cells #[] 104)
 clear lB1 cB1 fB1
 replace B1:=h! (B1.out.later hbA)
 replace HW:=h! (HW.out.trans (hbA.mono HW.out.size))
 clear hbA
 obtain ⟨lB1,cB1,fB1⟩:=B1.out
 generalize wv.alloc _=wa at *
 go_loopw [3,4] (fun u i wr => ∃ j:Nat,j <= np/\i = .int .i64 j/\Own wr w.heap.size [w.heap.size] 104 2 u j (iX (parT (f.params.take j)))/\Below w.heap.size w wr/\Box wr w.heap.size #[.slice ap np cp,.int .i64 ar,.int .i64 ce,.slice ab nb cb]) (fun _ i _=>np - (intOf i).toNat)
 case atStart=>exact ⟨0,aJ _,rfl,HO.out,HW.out,B1.out⟩
 obtain ⟨j,hj,rfl,hO,hW,hB1⟩:=hrel
 clear lB1 cB1 fB1
 obtain ⟨oa,oc,rfl⟩:=hO.form
 replace HO:=h! hO
 replace HW:=h! hW
 replace B1:=h! hB1
 clear hO hW hB1
 obtain ⟨lB1,cB1,fB1⟩:=B1.out
 by_cases hlt:j < np
 ·obtain ⟨rfl,hbp⟩:=HPA.out (by omega)
  have hx0:=(HW.out.cell hbp).trans (HPX.out j hlt)
  have hjx:=eZ f.params j (by have:=HNP.out;omega)
  have HSN:=h! (oR f.params j _ hjx)
  clear hjx
  generalize f.params.getD j 0=t at *
  go_wp2_with (at_builtin;refine fE rfl _ _ 101 104 rfl vT rfl rfl (HO.out.alloc _) (Row.of_box (n:=1) (size:=2) (Box.new _ _ _) rfl (by omega)) (by simp [Value.oneCell']) (by unfold maxLen;omega) (by omega) (by simp;have:=HW.out.size;omega) (by intro b hb;simp at hb ⊢;omega) ?_;intro v2 w2 hO2 hBs2 hB2)
  clear lB1 cB1 fB1
  replace B1:=h! (hBs2 _ _ (by simp) (B1.out.alloc _))
  replace HO:=h! hO2
  replace HW:=h! ((HW.out.alloc (by have:=HW.out.size;omega) _).trans hB2)
  clear hO2 hBs2 hB2
  obtain ⟨lB1,cB1,fB1⟩:=B1.out
  go_roundw
  case rel=>exact ⟨j+1,hlt,by go_num,by rw [HSN.out,iV];exact HO.out,HW.out,B1.out⟩
  simp [intOf];omega
 obtain rfl:j=np:=by omega
 rw [aH (by have:=HNP.out;omega)] at HO
 obtain ⟨np,hnp⟩ : ∃ np,np=j:=⟨_,rfl⟩
 obtain rfl:=hnp
 have HPT:Hid ((parT f.params).length=np):=h! (by unfold parT;simp [HNP.out])
 go_wp2_with fail
 go_loopw [3,5] (fun u i wr => ∃ j:Nat,j <= nb/\i = .int .i64 j/\Own wr w.heap.size [w.heap.size] 104 2 u (parT f.params ++ (f.blocks.take j).flatMap gL).length (iX (parT f.params ++ (f.blocks.take j).flatMap gL))/\Below w.heap.size w wr/\Box wr w.heap.size #[.slice ap np cp,.int .i64 ar,.int .i64 ce,.slice ab nb cb]) (fun _ i _=>nb - (intOf i).toNat)
 case atStart=>exact ⟨0,aJ _,rfl,by simp only [aU,dP,bR];rw [HPT.out];exact HO.out,HW.out,B1.out⟩
 obtain ⟨j,hj,rfl,hO,hW,hB1⟩:=hrel
 clear lB1 cB1 fB1
 obtain ⟨L,hL⟩ : ∃ L,L=parT f.params ++ (f.blocks.take j).flatMap gL:=⟨_,rfl⟩
 rw [<-hL] at hO
 obtain ⟨oa,oc,rfl⟩:=hO.form
 replace HO:=h! hO
 replace HW:=h! hW
 replace B1:=h! hB1
 have HL:=h! hL
 clear hO hW hB1 hL
 generalize wr=wb at *
 obtain ⟨lB1,cB1,fB1⟩:=B1.out
 by_cases hltb:j < nb
 ·obtain ⟨rfl,hbw⟩:=HBA.out (by omega)
  obtain ⟨x,hjx⟩ : ∃ x,f.blocks[j]? = some x:=⟨_,aC (by have:=HNB.out;omega)⟩
  obtain ⟨api,aii,ati,cpi,cii,cti,hC⟩:=HBX.out j x hjx
  have hsm:=HSM.out j x hjx
  have HFL:=h! (fP gL f.blocks j x hjx)
  have hB1':=hC.phis
  have hB2':=hC.code
  obtain ⟨k0,k1,k2,k3,k4,k5,q1,q2,q3,q4,q5,q6⟩:=hC.below HW.out hbw
  clear q1 q2 q3 q4 q5 q6 hC hjx
  rw [<-HL.out] at hsm
  obtain ⟨pl,hpl⟩ : ∃ pl,pl=x.phis.length:=⟨_,rfl⟩
  obtain ⟨cl,hcl⟩ : ∃ cl,cl=x.code.length:=⟨_,rfl⟩
  obtain ⟨ac,capc,bcd,ocd,hce1,hcc,hcm,hcl16,hca,hcx⟩:=fS hB2'
  obtain ⟨apx,capp,bph,oph,hpe1,hppc,hppm,hpl16,hpa2,hpx2⟩:=fH hB1'
  rw [<-hpl] at hpe1 hppc hpl16 hpa2 k0
  rw [<-hcl] at hce1 hcc hcl16 hca k1
  cases hpe1
  cases hce1
  have HPL:=h! hpl
  have HCL:=h! hcl
  have HPA2:=h! hpa2
  have HPX2:=h! hpx2
  have HCA2:=h! hca
  have HCX2:=h! hcx
  clear hpl hcl hpa2 hpx2 hca hcx hB1' hB2'
  have HSM2:Hid (∀ k,(L ++ (x.phis.take k).flatMap defP).length <= 4398046511104 /\ ∀ k2,(L ++ x.phis.flatMap defP ++ (x.code.take k2).flatMap defI).length <= 4398046511104):=h! (fun k=>⟨by
   have:=gG defP x.phis k
   rw [aI];omega,fun k2=>by
   have:=gG defI x.code k2
   rw [aI,aI];omega⟩)
  clear hsm
  replace HO:=h! (HO.out.more (b:=wb.heap.size) (aA _))
  go_upto_region 10 with (fail)
  have nB6B1:wb.heap.size ≠ w.heap.size:=fun e=>by have:=lB1;omega
  have nB1B6:w.heap.size ≠ wb.heap.size:=fun e=>nB6B1 e.symm
  clear lB1 cB1 fB1
  have hA_:=(Below.refl wb.heap.size wb).alloc (aA _) (.cells #[.slice api pl cpi,.slice aii cl cii,.int .i64 x.term.op,.int .i64 x.term.val,.slice ati x.term.to.length cti,.int .i64 x.term.n] 63)
  replace B1:=h! (B1.out.later hA_)
  replace HO:=h! (HO.out.later hA_)
  replace HW:=h! (HW.out.trans (hA_.mono HW.out.size))
  clear hA_
  have B6:=h! (Box.new wb #[.slice api pl cpi,.slice aii cl cii,.int .i64 x.term.op,.int .i64 x.term.val,.slice ati x.term.to.length cti,.int .i64 x.term.n] 63)
  generalize wb.alloc (.cells #[.slice api pl cpi,.slice aii cl cii,.int .i64 x.term.op,.int .i64 x.term.val,.slice ati x.term.to.length cti,.int .i64 x.term.n] 63)=w6 at *
  obtain ⟨lB1,cB1,fB1⟩:=B1.out
  obtain ⟨lB6,cB6,fB6⟩:=B6.out
  clear k0 k1 k2 k3 k4 k5
  go_wp2_with fail
  go_loopw [3,7] (fun u i wr => ∃ k:Nat,k <= pl/\i = .int .i64 k/\Own wr w.heap.size [wb.heap.size,w.heap.size] 104 2 u (L ++ (x.phis.take k).flatMap defP).length (iX (L ++ (x.phis.take k).flatMap defP))/\Below w.heap.size w wr/\Box wr w.heap.size #[.slice ap np cp,.int .i64 ar,.int .i64 ce,.slice (some ⟨bb,bo,none⟩) nb cb]/\Box wr wb.heap.size #[.slice api pl cpi,.slice aii cl cii,.int .i64 x.term.op,.int .i64 x.term.val,.slice ati x.term.to.length cti,.int .i64 x.term.n]) (fun _ i _=>pl - (intOf i).toNat)
  case atStart=>exact ⟨0,aJ _,rfl,by simp only [aU,dP,bR];exact HO.out,HW.out,B1.out,B6.out⟩
  obtain ⟨k,hk,rfl,hO,hW,hB1,hB6⟩:=hrel
  clear lB1 cB1 fB1 lB6 cB6 fB6
  have hsm:=(HSM2.out (k+1)).1
  have hsm0:=(HSM2.out k).1
  obtain ⟨L1,hL1⟩ : ∃ L1,L1=L ++ (x.phis.take k).flatMap defP:=⟨_,rfl⟩
  rw [<-hL1] at hO hsm0
  obtain ⟨oa1,oc1,rfl⟩:=hO.form
  replace HO:=h! hO
  replace HW:=h! hW
  replace B1:=h! hB1
  replace B6:=h! hB6
  have HL1:=h! hL1
  clear hO hW hB1 hB6 hL1
  generalize wr=w7 at *
  obtain ⟨lB1,cB1,fB1⟩:=B1.out
  obtain ⟨lB6,cB6,fB6⟩:=B6.out
  by_cases hlt:k < pl
  ·obtain ⟨rfl,hbp⟩:=HPA2.out (by omega)
   obtain ⟨p,hkp⟩ : ∃ p,x.phis[k]? = some p:=⟨_,aC (by have:=HPL.out;omega)⟩
   obtain ⟨af,av,cf,cv,hP⟩:=HPX2.out k p hkp
   have HFLP:=h! (fP defP x.phis k p hkp)
   have HP:=h! hP
   have HQ:Hid (L ++ (x.phis.take (k+1)).flatMap defP=L1 ++ [(p.id,p.typ)]):=h! (by rw [HFLP.out, <-List.append_assoc, <-HL1.out];rfl)
   rw [HQ.out,aI] at hsm
   obtain ⟨nL,hnL⟩ : ∃ nL,nL=L1.length:=⟨_,rfl⟩
   rw [<-hnL] at hsm hsm0 HO ⊢
   have HNL:=h! hnL
   simp only [aZ,cH,bG] at hsm
   clear hP hkp hnL
   go_upto_region 13 with (fail)
   refine wp_region_grow 15 (fun kz=>match kz with | 14=>.made w7.heap.size (fun b=>.slice (some ⟨b,0,none⟩) 1 1) #[.int .i64 p.id,.int .i64 p.typ] | _=>.plain) (by kernel_rfl) (by kernel_rfl) ?_ (fun ν => ?_)
   ·(intro k;(try dsimp only);split <;> first | exact True.intro | (intro u w1 w2 hu hb;exact hu.below hb))
   simp only [aQ,aU,aT,aY]
   iterate 14 (refine Grow.val (v := ?_) rfl rfl (fun wg hbg hdg => ?_) ?_;rotate_left;(focus ((obtain ⟨lg0,cg0,fg0⟩:=B1.out.later hbg);(obtain ⟨lg1,cg1,fg1⟩:=B6.out.later hbg);(obtain ⟨m0,m1,m2,m3,r1,r2,r3,r4⟩:=HP.out.below (HW.out.trans (hbg.mono HW.out.size)) hbp;clear r1 r2 r3 r4);clear hbg hdg;first | (go_simp;done) | (go_simp;with_reducible rfl)));simp only [Act.put,aB,aE,aF])
   refine Grow.made (T := ?_) rfl rfl (fun wg hbg hdg => ?_) ?_
   rotate_left
   focus ((obtain ⟨lg0,cg0,fg0⟩:=B1.out.later hbg);(obtain ⟨lg1,cg1,fg1⟩:=B6.out.later hbg);(obtain ⟨m0,m1,m2,m3,r1,r2,r3,r4⟩:=HP.out.below (HW.out.trans (hbg.mono HW.out.size)) hbp;clear r1 r2 r3 r4);clear hbg hdg;first | (go_simp;done) | (go_simp;with_reducible rfl))
   simp only [Act.put,Known.val,aB,aE,aF]
   intro wg hb hf hap
   obtain ⟨bBN,hνBN,hBBN,hXBN⟩:=hf 14 (by omega)
   have nBNB1:bBN ≠ w.heap.size:=fun e=>by have:=lB1;omega
   have nB1BN:w.heap.size ≠ bBN:=fun e=>nBNB1 e.symm
   have nBNB6:bBN ≠ wb.heap.size:=fun e=>by have:=lB6;omega
   have nB6BN:wb.heap.size ≠ bBN:=fun e=>nBNB6 e.symm
   simp only [hνBN]
   clear hνBN
   clear hap
   have gBN:=bI HW.out.size hBBN
   clear hBBN
   clear lB1 cB1 fB1 lB6 cB6 fB6
   replace B1:=h! (B1.out.later hb)
   replace B6:=h! (B6.out.later hb)
   replace HO:=h! (HO.out.later hb)
   replace HW:=h! (HW.out.trans (hb.mono HW.out.size))
   clear hb
   have BN:=h! hXBN
   clear hXBN
   obtain ⟨lB1,cB1,fB1⟩:=B1.out
   obtain ⟨lB6,cB6,fB6⟩:=B6.out
   obtain ⟨lBN,cBN,fBN⟩:=BN.out
   clear hf
   clear lB1 cB1 fB1 lB6 cB6 fB6 lBN cBN fBN
   have lBN:=BN.out.lt
   have lB1:=B1.out.lt
   have lB6:=B6.out.lt
   refine fE rfl _ _ 101 104 rfl vT rfl rfl HO.out (Row.of_box (n:=1) (size:=2) BN.out rfl (by omega)) (by simp [Value.oneCell']) (by unfold maxLen;omega) (by omega) (by have:=HW.out.size;omega) (by intro b hb;simp at hb ⊢;omega) ?_
   intro v2 w2 hO2 hBs2 hB2
   clear lBN
   clear lB1
   clear lB6
   replace B1:=h! (hBs2 _ _ (by simp) B1.out)
   replace B6:=h! (hBs2 _ _ (by simp) B6.out)
   replace HO:=h! hO2
   replace HW:=h! (HW.out.trans hB2)
   clear hO2 hBs2 hB2 BN
   obtain ⟨lB1,cB1,fB1⟩:=B1.out
   obtain ⟨lB6,cB6,fB6⟩:=B6.out
   go_wp2
   go_roundw
   case rel=>exact ⟨k+1,hlt,by go_num,by rw [HQ.out,iV,aI, <-HNL.out];exact HO.out,HW.out,B1.out,B6.out⟩
   simp [intOf];omega
  obtain rfl:k=pl:=by omega
  rw [aH (by have:=HPL.out;omega)] at HL1
  clear hsm hsm0
  go_wp2_with fail
  go_loopw [3,8] (fun u i wr => ∃ q:Nat,q <= cl/\i = .int .i64 q/\Own wr w.heap.size [wb.heap.size,w.heap.size] 104 2 u (L1 ++ (x.code.take q).flatMap defI).length (iX (L1 ++ (x.code.take q).flatMap defI))/\Below w.heap.size w wr/\Box wr w.heap.size #[.slice ap np cp,.int .i64 ar,.int .i64 ce,.slice (some ⟨bb,bo,none⟩) nb cb]/\Box wr wb.heap.size #[.slice api k cpi,.slice aii cl cii,.int .i64 x.term.op,.int .i64 x.term.val,.slice ati x.term.to.length cti,.int .i64 x.term.n]) (fun _ i _=>cl - (intOf i).toNat)
  case atStart=>exact ⟨0,aJ _,rfl,by simp only [aU,dP,bR];exact HO.out,HW.out,B1.out,B6.out⟩
  obtain ⟨q,hq,rfl,hO,hW,hB1,hB6⟩:=hrel
  clear lB1 cB1 fB1 lB6 cB6 fB6
  have hsm:=(HSM2.out 0).2 (q+1)
  have hsm0:=(HSM2.out 0).2 q
  rw [<-HL1.out] at hsm hsm0
  obtain ⟨L2,hL2⟩ : ∃ L2,L2=L1 ++ (x.code.take q).flatMap defI:=⟨_,rfl⟩
  rw [<-hL2] at hO hsm0
  obtain ⟨oa2,oc2,rfl⟩:=hO.form
  replace HO:=h! hO
  replace HW:=h! hW
  replace B1:=h! hB1
  replace B6:=h! hB6
  have HL2:=h! hL2
  clear hO hW hB1 hB6 hL2
  generalize wr=w9 at *
  obtain ⟨lB1,cB1,fB1⟩:=B1.out
  obtain ⟨lB6,cB6,fB6⟩:=B6.out
  by_cases hltq:q < cl
  ·obtain ⟨rfl,hbp⟩:=HCA2.out (by omega)
   obtain ⟨y,hky⟩ : ∃ y,x.code[q]? = some y:=⟨_,aC (by have:=HCL.out;omega)⟩
   obtain ⟨aa,ca,hP⟩:=HCX2.out q y hky
   have HFLC:=h! (fP defI x.code q y hky)
   obtain ⟨m0,m1,m2,m3,r1,r2,r3,r4⟩:=hP.below HW.out hbp
   have HQ:Hid (L1 ++ (x.code.take (q+1)).flatMap defI=L2 ++ defI y):=h! (by rw [HFLC.out, <-List.append_assoc, <-HL2.out])
   rw [HQ.out,aI] at hsm
   obtain ⟨nL,hnL⟩ : ∃ nL,nL=L2.length:=⟨_,rfl⟩
   rw [<-hnL] at hsm hsm0 HO ⊢
   have HNL:=h! hnL
   have hs0:=mE y.op
   clear r1 r2 r3 r4 hP hky hnL
   go_wp2_with fail
   refine (nQ y.op).mono ?_
   rintro e w10 ⟨rfl,rfl⟩
   have HDI:Hid (defI y=if (shp0 y.op).result=0 then [] else [(y.id,(shp0 y.op).result)]):=h! rfl
   obtain ⟨res,hres⟩ : ∃ res,res=(shp0 y.op).result:=⟨_,rfl⟩
   rw [<-hres] at HDI hs0
   simp only [<-hres]
   clear hres
   have hr0:=hs0.2.2.1
   clear hs0
   cases hgt:decide (0 < res)
   ·have HGT:=h! hgt
    go_wp2
    go_roundw
    case rel=>exact ⟨q+1,hltq,by go_num,by rw [HQ.out,HDI.out,if_pos (by have:=HGT.out;simp at this;omega),bR, <-HNL.out];exact HO.out,HW.out,B1.out,B6.out⟩
    simp [intOf];omega
   have HGT:=h! hgt
   have HDI2:Hid (defI y=[(y.id,res)]):=h! (by rw [HDI.out,if_neg (by simp at hgt;omega)])
   rw [HDI2.out] at hsm
   simp only [aZ,cH,bG] at hsm
   go_wp2_with (at_builtin;refine fE rfl _ _ 101 104 rfl vT rfl rfl (HO.out.alloc _) (Row.of_box (n:=1) (size:=2) (Box.new _ _ _) rfl (by omega)) (by simp [Value.oneCell']) (by unfold maxLen;omega) (by omega) (by simp;have:=HW.out.size;omega) (by intro b hb;simp at hb ⊢;omega) ?_;intro v2 w2 hO2 hBs2 hB2)
   clear lB1 cB1 fB1 lB6 cB6 fB6
   replace B1:=h! (hBs2 _ _ (by simp) (B1.out.alloc _))
   replace B6:=h! (hBs2 _ _ (by simp) (B6.out.alloc _))
   replace HO:=h! hO2
   replace HW:=h! ((HW.out.alloc (by have:=HW.out.size;omega) _).trans hB2)
   clear hO2 hBs2 hB2
   obtain ⟨lB1,cB1,fB1⟩:=B1.out
   obtain ⟨lB6,cB6,fB6⟩:=B6.out
   go_roundw
   case rel=>exact ⟨q+1,hltq,by go_num,by rw [HQ.out,HDI2.out,iV,aI, <-HNL.out];exact HO.out,HW.out,B1.out,B6.out⟩
   simp [intOf];omega
  obtain rfl:q=cl:=by omega
  rw [aH (by have:=HCL.out;omega)] at HL2
  have HQ:Hid (parT f.params ++ (f.blocks.take (j+1)).flatMap gL=L2):=h! (by rw [HFL.out, <-List.append_assoc, <-HL.out,HL2.out,HL1.out,lJ,bN])
  clear hsm hsm0
  go_wp2
  go_roundw
  case rel=>exact ⟨j+1,hltb,by go_num,by rw [HQ.out];exact HO.out.less (by simp),HW.out,B1.out⟩
  simp [intOf];omega
 obtain rfl:j=nb:=by omega
 rw [aH (by have:=HNB.out;omega)] at HL
 rw [<-HVF.out] at HL
 go_wp2
 go_ret
 exact ⟨_,rfl,by rw [<-HL.out];exact HO.out.row,HW.out⟩
set_option maxRecDepth 100000 in
theorem sS {w:World} {v:Value} {f:FuncD} (hv:fJ w v f) (hsm:(eQ f).length <= 4398046511103) (hpos:0 < (eQ f).length):Calls Tryz.prog 19 #[v] w (IdsR f w):=by
 have HV:=h! hv
 obtain ⟨ap,cp,ab,cb,rfl,hp,ha,hc,hB⟩:=hv.form
 have hpl:=hp.1.big
 obtain ⟨np,hnp⟩ : ∃ np,np=f.params.length:=⟨_,rfl⟩
 obtain ⟨nb,hnb⟩ : ∃ nb,nb=f.blocks.length:=⟨_,rfl⟩
 obtain ⟨ar,har⟩ : ∃ ar,ar=f.arrays:=⟨_,rfl⟩
 obtain ⟨ce,hce⟩ : ∃ ce,ce=f.cells:=⟨_,rfl⟩
 obtain ⟨n,hn⟩ : ∃ n,n=(eQ f).length:=⟨_,rfl⟩
 rw [<-hnp, <-hnb, <-har, <-hce] at HV ⊢
 rw [<-hn] at hsm hpos
 rw [<-hnp] at hpl
 have HNP:=h! hnp
 have HN:=h! hn
 have HSM:=h! hsm
 clear hp ha hc hB hv hnp hnb har hce hn
 go_enter Tryz.func19,Tryz.ntmps19
 go_upto_region 1 with (fail)
 have hA_:=(Below.refl w.heap.size w).alloc (aA _) (.cells #[.slice ap np cp,.int .i64 ar,.int .i64 ce,.slice ab nb cb] 25)
 have HW:=h! hA_
 clear hA_
 have B1:=h! (Box.new w #[.slice ap np cp,.int .i64 ar,.int .i64 ce,.slice ab nb cb] 25)
 generalize w.alloc (.cells #[.slice ap np cp,.int .i64 ar,.int .i64 ce,.slice ab nb cb] 25)=wv at *
 obtain ⟨lB1,cB1,fB1⟩:=B1.out
 go_wp2_with fail
 refine (vY (HV.out.below HW.out) (by rw [<-HN.out];have:=HSM.out;omega)).mono ?_
 rintro e w1 ⟨u,rfl,hu,hb1⟩
 rw [<-HN.out] at hu
 obtain ⟨g,capV,A,rfl,hg,hcV1,hcV2,hbox,hAx⟩:=zY hu hpos
 have hlv:=lB1
 clear lB1 cB1 fB1
 replace B1:=h! (B1.out.later hb1)
 replace HW:=h! (HW.out.trans (hb1.mono HW.out.size))
 clear hb1
 obtain ⟨lB1,cB1,fB1⟩:=B1.out
 have BV:=h! hbox
 have HAX:=h! hAx
 have n1:g ≠ w.heap.size:=by omega
 have n2:w.heap.size ≠ g:=fun e=>n1 e.symm
 have hgw:w.heap.size < g:=by omega
 clear hu hbox hAx hlv hg
 go_wp2_with fail
 have HO:Hid (Own (w1.alloc (.cells #[] 3)) w.heap.size [g,w.heap.size] 3 1 (.slice (some ⟨w1.heap.size,0,none⟩) 0 0) 0 []):=h! (jO HW.out.size (by intro b hb;have:=BV.out.lt;simp at hb;omega) 1)
 have hbA:=(Below.refl w1.heap.size w1).alloc (aA _) (.cells #[] 3)
 replace BV:=h! (BV.out.later hbA)
 clear lB1 cB1 fB1
 replace B1:=h! (B1.out.later hbA)
 replace HW:=h! (HW.out.trans (hbA.mono HW.out.size))
 clear hbA
 obtain ⟨lB1,cB1,fB1⟩:=B1.out
 generalize w1.alloc _=wa at *
 go_loopw [5,6] (fun u ii wr => ∃ (i:Nat) (S:List Int),i <= n/\ii = .int .i64 i/\Own wr w.heap.size [g,w.heap.size] 3 1 u S.length (S.map (.int .i64))/\IdsS np (eQ f) i S/\Below w.heap.size w wr/\Box wr w.heap.size #[.slice ap np cp,.int .i64 ar,.int .i64 ce,.slice ab nb cb]/\Box wr g A) (fun _ ii _=>n - (intOf ii).toNat)
 case atStart=>exact ⟨0,[],aJ _,rfl,HO.out,IdsS.start _ _,HW.out,B1.out,BV.out⟩
 obtain ⟨i,S,hi,rfl,hO,hIS,hW,hB1,hBV⟩:=hrel
 clear lB1 cB1 fB1
 obtain ⟨oa,oc,rfl⟩:=hO.form
 replace HO:=h! hO
 have HIS:=h! hIS
 replace HW:=h! hW
 replace B1:=h! hB1
 replace BV:=h! hBV
 have hSn:S.length <= 4398046511103:=by have:=hIS.len;have:=HSM.out;omega
 clear hO hIS hW hB1 hBV
 generalize wr=wi at *
 obtain ⟨lB1,cB1,fB1⟩:=B1.out
 obtain ⟨lBV,cBV,fBV⟩:=BV.out
 by_cases hlti:i < n
 ·obtain ⟨p,hp⟩ : ∃ p,(eQ f)[i]? = some p:=⟨_,aC (by have:=HN.out;omega)⟩
  obtain ⟨x,t⟩:=p
  have HPX:=h! hp
  have hx0:=HAX.out (i * 2) _ (mP _ _ _ hp).1
  clear hp
  simp only at hx0
  have hways:(((np:Int) <= i) /\ ¬ ((np:Int) <= x/\x < 1048576)) \/ ((i:Int) < np \/ ((np:Int) <= i/\(np:Int) <= x/\x < 1048576)):=by omega
  rcases hways with hbad | hgood
  ·have HBAD:=h! hbad
   obtain ⟨h1,h2⟩:=hbad
   have h3:x < (np:Int) \/ ((np:Int) <= x/\1048576 <= x):=by omega
   clear h2
   rcases h3 with h3 | ⟨h3,h4⟩
   all_goals
    go_wp2
    go_ret2
    exact ⟨HW.out,.inl ⟨rP HPX.out (by have:=HBAD.out.1;have:=HNP.out;omega) (by rw [<-HNP.out];exact HBAD.out.2),rfl⟩⟩
  have HGD:Hid (np <= i -> (np:Int) <= x/\x < 1048576):=h! (by intro h;omega)
  rcases hgood with h1 | ⟨h1,h2,h3⟩
  all_goals
   go_wp2_with fail
   try clear h2
   try clear h3
   clear h1
   go_loopw [8] (fun aa wr => ∃ q:Nat,q <= S.length/\aa = .int .i64 q/\(∀ j y,q <= j -> S[j]? = some y -> x < y)/\wr=wi) (fun aa _=>(intOf aa).toNat)
   case atStart=>exact ⟨S.length,aA _,by go_num,fun j y h hy=>by have:=(aD.1 hy).1;omega,rfl⟩
   obtain ⟨q,hq,rfl,hhi,rfl⟩:=hrel
   have HHI:=h! hhi
   clear hhi
   by_cases hq0:q=0
   ·subst hq0
    have HST:Hid (IdsS np (eQ f) (i+1) (gO S 0 x)):=h! (HIS.out.step HPX.out HGD.out (aJ _) (fun j y h=>by omega) HHI.out)
    obtain ⟨sl,hsl⟩ : ∃ sl,sl=S.length:=⟨_,rfl⟩
    rw [<-hsl] at HO ⊢
    have HSL:=h! hsl
    have hslb:sl+1 <= 4398046511104:=by have:=HIS.out.len;omega
    have hkS:0 <= sl:=by omega
    clear hsl
    go_wp2_with (at_builtin;refine fE rfl _ _ 22 3 rfl nJ rfl rfl (HO.out.alloc _) (Row.of_box (n:=1) (size:=1) (Box.new _ _ _) rfl (by omega)) (by simp [Value.oneCell']) (by unfold maxLen;omega) (by omega) (by simp;have:=HW.out.size;omega) (by intro b hb;simp at hb ⊢;omega) ?_;intro v2 w2 hO2 hBs2 hB2;obtain ⟨g2,cap2,rfl,hg2,hb2,hlt2,hc2,hm2,_,_⟩:=hO2.cells (by omega);have HO2:=h! hO2;have HBS2:=h! hBs2;have HB2:=h! hB2;clear hO2 hBs2 hB2)
    have HGN:Hid (g2 ≠ g/\g2 ≠ w.heap.size):=h! (by simpa using hg2)
    clear hg2
    clear lB1 cB1 fB1 lBV cBV fBV
    replace B1:=h! (HBS2.out _ _ (by simp) (B1.out.alloc _))
    replace BV:=h! (HBS2.out _ _ (by simp) (BV.out.alloc _))
    replace HW:=h! ((HW.out.alloc (by have:=HW.out.size;omega) _).trans HB2.out)
    replace HO:Hid (Own w2 w.heap.size [g,w.heap.size] 3 1 (.slice (some ⟨g2,0,none⟩) (sl+1) cap2) (sl+1) ((gO S sl 0).map (.int .i64))):=h! (by rw [HSL.out,mN,bC];have:=HO2.out;rw [HSL.out] at this;exact this)
    clear HB2 HBS2 HO2
    go_loopw [9] (fun kk wr => ∃ (k:Nat) (y:Int),0 <= k/\k <= sl/\kk = .int .i64 k/\Own wr w.heap.size [g,w.heap.size] 3 1 (.slice (some ⟨g2,0,none⟩) (sl+1) cap2) (sl+1) ((gO S k y).map (.int .i64))/\Below w.heap.size w wr/\Box wr w.heap.size #[.slice ap np cp,.int .i64 ar,.int .i64 ce,.slice ab nb cb]/\Box wr g A) (fun kk _=>(intOf kk).toNat)
    case atStart=>exact ⟨sl,0,hkS,aA _,by go_num,HO.out,HW.out,B1.out,BV.out⟩
    obtain ⟨k,y,hk1,hk2,rfl,hO,hW,hB1,hBV⟩:=hrel
    replace HO:=h! hO
    replace HW:=h! hW
    replace B1:=h! hB1
    replace BV:=h! hBV
    clear hW hB1 hBV
    obtain ⟨g3,cap3,hgv,_,_,hlt3,_,_,hcell,hfree⟩:=hO.cells (by omega)
    cases hgv
    clear hO
    have HCELL:=h! hcell
    clear hcell
    by_cases hlt:0 < k
    ·obtain ⟨k,rfl⟩ : ∃ k',k=k' + 1:=⟨k - 1,by omega⟩
     have hkx:=eZ S k (by have:=HSL.out;omega)
     have hc:=HCELL.out k (.int .i64 (S.getD k 0)) (by rw [aM,mO S (k+1) k y _ (by omega) hkx];rfl)
     have hc1:=HCELL.out (k+1) (.int .i64 y) (by rw [aM];unfold gO;rw [bK (by rw [aR];have:=HSL.out;omega)];rw [aR,dB (by have:=HSL.out;omega),dE];rfl)
     have HSH:=h! (kJ S k y _ hkx)
     clear hkx
     generalize S.getD k 0=z at *
     have hf1:=hfree (k+1)
     clear hfree
     go_wp2
     go_roundw
     case rel=>exact ⟨k,z,by omega,by omega,by go_num,by have h:=HO.out.put (i:=k+1) (by omega) (.int .i64 z);rw [<-List.map_set,HSH.out] at h;exact h,HW.out.setCell (by omega) _,B1.out.other _ (by have:=HGN.out;simp;omega),BV.out.other _ (by have:=HGN.out;simp;omega)⟩
     simp [intOf]
    obtain rfl:k=0:=by omega
    have hc1:=HCELL.out 0 (.int .i64 y) (by rw [aM];unfold gO;rw [bK (by rw [aR];have:=HSL.out;omega)];rw [aR,dB (by have:=HSL.out;omega),dE];rfl)
    have hf1:=hfree 0
    clear hfree
    have HSE:=h! (kZ S 0 y x (by have:=HSL.out;omega))
    have HLEN:=h! (jC S 0 x (by have:=HSL.out;omega))
    go_wp2
    go_roundw
    case rel=>exact ⟨i+1,gO S 0 x,hlti,by go_num,by rw [HLEN.out, <-HSL.out];have h:=HO.out.put (i:=0) (by omega) (.int .i64 x);rw [<-List.map_set,HSE.out] at h;exact h,HST.out,HW.out.setCell (by omega) _,B1.out.other _ (by have:=HGN.out;simp;omega),BV.out.other _ (by have:=HGN.out;simp;omega)⟩
    simp [intOf];omega
   obtain ⟨k0,rfl⟩ : ∃ k0,q=k0+1:=⟨q - 1,by omega⟩
   obtain ⟨g4,cap4,hgv4,_,_,_,_,_,hcell4,_⟩:=HO.out.cells (by omega)
   have hkx4:=eZ S k0 (by omega)
   have hc4:=hcell4 k0 (.int .i64 (S.getD k0 0)) (by rw [aM,hkx4];rfl)
   have HK4:=h! hkx4
   cases hgv4
   clear hcell4 hkx4 hq0
   generalize S.getD k0 0=y4 at *
   cases hgt:decide (x < y4)
   ·cases heq:(y4 == x)
    ·have HST:Hid (IdsS np (eQ f) (i+1) (gO S (k0+1) x)):=h! (HIS.out.step HPX.out HGD.out hq (fun j y h hy=>by
      simp at hgt heq
      by_cases e:j=k0
      ·subst e;have:=HK4.out;rw [hy] at this;cases this;omega
      ·have:=HIS.out.rise.lt hy HK4.out (by omega);omega) HHI.out)
     obtain ⟨sl,hsl⟩ : ∃ sl,sl=S.length:=⟨_,rfl⟩
     rw [<-hsl] at HO ⊢
     have HSL:=h! hsl
     have hslb:sl+1 <= 4398046511104:=by have:=HIS.out.len;omega
     have hkS:(k0+1) <= sl:=by omega
     clear hsl
     go_wp2_with (at_builtin;refine fE rfl _ _ 22 3 rfl nJ rfl rfl (HO.out.alloc _) (Row.of_box (n:=1) (size:=1) (Box.new _ _ _) rfl (by omega)) (by simp [Value.oneCell']) (by unfold maxLen;omega) (by omega) (by simp;have:=HW.out.size;omega) (by intro b hb;simp at hb ⊢;omega) ?_;intro v2 w2 hO2 hBs2 hB2;obtain ⟨g2,cap2,rfl,hg2,hb2,hlt2,hc2,hm2,_,_⟩:=hO2.cells (by omega);have HO2:=h! hO2;have HBS2:=h! hBs2;have HB2:=h! hB2;clear hO2 hBs2 hB2)
     have HGN:Hid (g2 ≠ g/\g2 ≠ w.heap.size):=h! (by simpa using hg2)
     clear hg2
     clear lB1 cB1 fB1 lBV cBV fBV
     replace B1:=h! (HBS2.out _ _ (by simp) (B1.out.alloc _))
     replace BV:=h! (HBS2.out _ _ (by simp) (BV.out.alloc _))
     replace HW:=h! ((HW.out.alloc (by have:=HW.out.size;omega) _).trans HB2.out)
     replace HO:Hid (Own w2 w.heap.size [g,w.heap.size] 3 1 (.slice (some ⟨g2,0,none⟩) (sl+1) cap2) (sl+1) ((gO S sl 0).map (.int .i64))):=h! (by rw [HSL.out,mN,bC];have:=HO2.out;rw [HSL.out] at this;exact this)
     clear HB2 HBS2 HO2
     go_loopw [9] (fun kk wr => ∃ (k:Nat) (y:Int),(k0+1) <= k/\k <= sl/\kk = .int .i64 k/\Own wr w.heap.size [g,w.heap.size] 3 1 (.slice (some ⟨g2,0,none⟩) (sl+1) cap2) (sl+1) ((gO S k y).map (.int .i64))/\Below w.heap.size w wr/\Box wr w.heap.size #[.slice ap np cp,.int .i64 ar,.int .i64 ce,.slice ab nb cb]/\Box wr g A) (fun kk _=>(intOf kk).toNat)
     case atStart=>exact ⟨sl,0,hkS,aA _,by go_num,HO.out,HW.out,B1.out,BV.out⟩
     case round =>
      obtain ⟨k,y,hk1,hk2,rfl,hO,hW,hB1,hBV⟩:=hrel
      replace HO:=h! hO
      replace HW:=h! hW
      replace B1:=h! hB1
      replace BV:=h! hBV
      clear hW hB1 hBV
      obtain ⟨g3,cap3,hgv,_,_,hlt3,_,_,hcell,hfree⟩:=hO.cells (by omega)
      cases hgv
      clear hO
      have HCELL:=h! hcell
      clear hcell
      by_cases hlt:(k0+1) < k
      ·obtain ⟨k,rfl⟩ : ∃ k',k=k' + 1:=⟨k - 1,by omega⟩
       have hkx:=eZ S k (by have:=HSL.out;omega)
       have hc:=HCELL.out k (.int .i64 (S.getD k 0)) (by rw [aM,mO S (k+1) k y _ (by omega) hkx];rfl)
       have hc1:=HCELL.out (k+1) (.int .i64 y) (by rw [aM];unfold gO;rw [bK (by rw [aR];have:=HSL.out;omega)];rw [aR,dB (by have:=HSL.out;omega),dE];rfl)
       have HSH:=h! (kJ S k y _ hkx)
       clear hkx
       generalize S.getD k 0=z at *
       have hf1:=hfree (k+1)
       clear hfree
       go_wp2
       go_roundw
       case rel=>exact ⟨k,z,by omega,by omega,by go_num,by have h:=HO.out.put (i:=k+1) (by omega) (.int .i64 z);rw [<-List.map_set,HSH.out] at h;exact h,HW.out.setCell (by omega) _,B1.out.other _ (by have:=HGN.out;simp;omega),BV.out.other _ (by have:=HGN.out;simp;omega)⟩
       simp [intOf]
      obtain rfl:k=(k0+1):=by omega
      have hc1:=HCELL.out (k0+1) (.int .i64 y) (by rw [aM];unfold gO;rw [bK (by rw [aR];have:=HSL.out;omega)];rw [aR,dB (by have:=HSL.out;omega),dE];rfl)
      have hf1:=hfree (k0+1)
      clear hfree
      have HSE:=h! (kZ S (k0+1) y x (by have:=HSL.out;omega))
      have HLEN:=h! (jC S (k0+1) x (by have:=HSL.out;omega))
      go_wp2
      go_roundw
      case rel=>exact ⟨i+1,gO S (k0+1) x,hlti,by go_num,by rw [HLEN.out, <-HSL.out];have h:=HO.out.put (i:=(k0+1)) (by omega) (.int .i64 x);rw [<-List.map_set,HSE.out] at h;exact h,HST.out,HW.out.setCell (by omega) _,B1.out.other _ (by have:=HGN.out;simp;omega),BV.out.other _ (by have:=HGN.out;simp;omega)⟩
      simp [intOf];omega
    have HEQ:Hid (y4=x):=h! (by simpa using heq)
    go_wp2
    go_ret2
    exact ⟨HW.out,.inl ⟨rQ (by rw [<-HNP.out];exact HIS.out) HPX.out (by have:=aG HK4.out;rw [HEQ.out] at this;exact this),rfl⟩⟩
   have HGT:=h! hgt
   go_wp2
   go_roundw
   case rel=>exact ⟨k0,by omega,by go_num,fun j y h hy=>by
     have e1:=HGT.out
     simp at e1
     by_cases e:j=k0
     ·subst e;have:=HK4.out;rw [hy] at this;cases this;omega
     exact HHI.out j y (by omega) hy,by trivial⟩
   simp [intOf]
 obtain rfl:i=n:=by omega
 have HID:Hid (IdsS f.params.length (eQ f) (eQ f).length S):=h! (by rw [<-HNP.out, <-HN.out];exact HIS.out)
 have HNW:Hid (New 3 w wi (.slice oa S.length oc) S):=h! ⟨HO.out.row,by omega,HID.out.in64 (by rw [<-HNP.out];omega)⟩
 go_wp2
 go_ret2
 exact ⟨HW.out,.inr ⟨HID.out.done,_,_,rfl,HNW.out,HID.out⟩⟩
theorem aDK {w:World} {v:Value} {f:FuncD} (hv:fJ w v f) (hsm:(eQ f).length <= 4398046511103):Calls Tryz.prog 19 #[v] w (IdsR f w):=by
 by_cases h:(eQ f).length=0
 ·exact pD hv h
 exact sS hv hsm (by omega)
end Go.Proofs.YtagabiidbbhhmaaGreat
