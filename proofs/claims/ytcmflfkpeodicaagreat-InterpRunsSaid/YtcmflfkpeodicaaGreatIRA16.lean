/- Part 16. -/
import Derived.Test.YtcmflfkpeodicaaGreatIRA15
namespace Go.Proofs.YtcmflfkpeodicaaGreat
set_option linter.all false
open Go.RowKit
theorem yY {w:World} {v:Value} {f:FuncD} (hv:gG w v f):Calls Tryz.prog 118 #[v] w fun e w'=>e = .returned (.bool (gM f))/\Below w.heap.size w w':=by
 cases h:iH f
 ·have h2:gM f=false:=by unfold gM;rw [h];rfl
  rw [h2];exact uG hv h
 have h2:gM f=(f.params.all kH && f.blocks.zipIdx.all (fN f.blocks.length f.arrays f.cells)):=by unfold gM;rw [h];rfl
 unfold iH at h
 simp only [aN,decide_eq_true_eq] at h
 obtain ⟨⟨⟨⟨⟨⟨⟨q1,q2⟩,q3⟩,q4⟩,q5⟩,q6⟩,q7⟩,q8⟩:=h
 obtain ⟨ap,cp,ab,cb,rfl,hp,ha,hc,hB⟩:=hv.form
 exact rF rfl rfl rfl rfl hp hB ha hc q1 ⟨q2,q3⟩ ⟨q4,q5⟩ ⟨q6,q7⟩ q8 h2
def defP (p:PhiD):List (Int × Int):=[(p.id,p.typ)]
theorem pS (b:BlockD):iS b=b.phis.flatMap defP ++ b.code.flatMap defI:=by
 unfold iS;rw [sK, <-sJ];rfl
theorem iF {α β : Type} (g : α -> List β) (l:List α) (j:Nat):((l.take j).flatMap g).length <= (l.flatMap g).length:=by
 have h:=cV j l
 have h2:(l.flatMap g).length=((l.take j).flatMap g).length+((l.drop j).flatMap g).length:=by rw [<-List.length_append, <-List.flatMap_append,h]
 omega
def kK (T:List (Int × Int)):List Value:=T.flatMap fun p=>[.int .i64 p.1,.int .i64 p.2]
theorem mF (T:List (Int × Int)) (a b:Int):kK (T ++ [(a,b)])=kK T ++ [.int .i64 a,.int .i64 b]:=by unfold kK;simp
theorem aEB:Elem Tryz.prog 152 155 (.agg #[.int .i64 0,.int .i64 0]) 2 16:=pI Tryz.underlying152 (by kernel_rfl) rfl (by omega)
def aH2 (T:List (Int × Int)) (w:World) (e:Ending) (w' : World):Prop := ∃ u,e = .returned u/\w'.ownsRow w.heap.size 155 2 u T.length (kK T)/\Below w.heap.size w w'
set_option maxHeartbeats 12800000 in
set_option maxRecDepth 100000 in
theorem oG {w:World} {v:Value} {f:FuncD} (hv:gG w v f) (hsm:(eR f).length <= 8192):Calls Tryz.prog 82 #[v] w (aH2 (eR f) w):=by
 obtain ⟨ap,cp,ab,cb,rfl,hp,ha,hc,hB⟩:=hv.form
 obtain ⟨a1,c1,pb,po,hpe,hpc,hpm,hpa,hpx⟩:=hp.parts
 cases hpe
 obtain ⟨a2,c2,bb,bo,hbe,hbc,hbm,hbl,hba,hbx⟩:=eW hB
 cases hbe
 have HSM:Hid (∀ j x,f.blocks[j]? = some x -> (parT f.params ++ (f.blocks.take j).flatMap iS).length+(x.phis.flatMap defP).length+(x.code.flatMap defI).length <= 8192):=h! (fun j x hj=>by
  have h1:=iF iS f.blocks (j+1)
  rw [gH _ _ _ _ hj,aQ,pS x,aQ] at h1
  have h2:(eR f).length=(parT f.params).length+(f.blocks.flatMap iS).length:=by unfold eR oU;rw [aQ]
  rw [aQ]
  omega)
 have hnp2:f.params.length <= 8192:=by
  have h2:(eR f).length=(parT f.params).length+(f.blocks.flatMap iS).length:=by unfold eR oU;rw [aQ]
  have h3:(parT f.params).length=f.params.length:=by unfold parT;simp
  omega
 have HVF:Hid (eR f=parT f.params ++ f.blocks.flatMap iS):=h! rfl
 obtain ⟨np,hnp⟩ : ∃ np,np=f.params.length:=⟨_,rfl⟩
 obtain ⟨nb,hnb⟩ : ∃ nb,nb=f.blocks.length:=⟨_,rfl⟩
 rw [<-hnp] at hpc hpa hpx hnp2 ⊢
 rw [<-hnb] at hbc hba hbl ⊢
 have HNP:=h! hnp
 have HNB:=h! hnb
 have HPA:=h! hpa
 have HPX:=h! hpx
 have HBA:=h! hba
 have HBX:=h! hbx
 clear hp ha hc hB hv hsm hpa hpx hba hbx hnp hnb
 generalize f.arrays=ar at *
 generalize f.cells=ce at *
 go_enter Tryz.func82,Tryz.ntmps82
 go_upto_region 1 with (fail)
 have hA_:=(Below.refl w.heap.size w).alloc (aF _) (.cells #[.slice ap np cp,.int .i64 ar,.int .i64 ce,.slice ab nb cb] 25)
 have HW:=h! hA_
 clear hA_
 have B1:=h! (Box.new w #[.slice ap np cp,.int .i64 ar,.int .i64 ce,.slice ab nb cb] 25)
 generalize w.alloc (.cells #[.slice ap np cp,.int .i64 ar,.int .i64 ce,.slice ab nb cb] 25)=wv at *
 obtain ⟨lB1,cB1,fB1⟩:=B1.out
 go_wp2_with fail
 have HO:Hid (Own (wv.alloc (.cells #[] 155)) w.heap.size [w.heap.size] 155 2 (.slice (some ⟨wv.heap.size,0,none⟩) 0 0) 0 []):=h! (lQ HW.out.size (by intro b hb;simp at hb;omega) 2)
 have hbA:=(Below.refl wv.heap.size wv).alloc (aF _) (.cells #[] 155)
 clear lB1 cB1 fB1
 replace B1:=h! (B1.out.later hbA)
 replace HW:=h! (HW.out.trans (hbA.mono HW.out.size))
 clear hbA
 obtain ⟨lB1,cB1,fB1⟩:=B1.out
 generalize wv.alloc _=wa at *
 go_loopw [3,4] (fun u i wr => ∃ j:Nat,j <= np/\i = .int .i64 j/\Own wr w.heap.size [w.heap.size] 155 2 u j (kK (parT (f.params.take j)))/\Below w.heap.size w wr/\Box wr w.heap.size #[.slice ap np cp,.int .i64 ar,.int .i64 ce,.slice ab nb cb]) (fun _ i _=>np - (intOf i).toNat)
 case atStart=>exact ⟨0,aP _,rfl,HO.out,HW.out,B1.out⟩
 obtain ⟨j,hj,rfl,hO,hW,hB1⟩:=hrel
 clear lB1 cB1 fB1
 obtain ⟨oa,oc,rfl⟩:=hO.form
 replace HO:=h! hO
 replace HW:=h! hW
 replace B1:=h! hB1
 clear hO hW hB1
 obtain ⟨lB1,cB1,fB1⟩:=B1.out
 by_cases hlt:j < np
 ·obtain ⟨rfl,hbp⟩:=HPA.out (by omega)
  have hx0:=(HW.out.cell hbp).trans (HPX.out j hlt)
  have hjx:=eX f.params j (by have:=HNP.out;omega)
  have HSN:=h! (rL f.params j _ hjx)
  clear hjx
  generalize f.params.getD j 0=t at *
  go_wp2_with (at_builtin;refine fZ rfl _ _ 152 155 rfl aEB rfl rfl (HO.out.alloc _) (Row.of_box (n:=1) (size:=2) (Box.new _ _ _) rfl (by omega)) (by simp [Value.oneCell']) (by unfold maxLen;omega) (by omega) (by simp;have:=HW.out.size;omega) (by intro b hb;simp at hb ⊢;omega) ?_;intro v2 w2 hO2 hBs2 hB2)
  clear lB1 cB1 fB1
  replace B1:=h! (hBs2 _ _ (by simp) (B1.out.alloc _))
  replace HO:=h! hO2
  replace HW:=h! ((HW.out.alloc (by have:=HW.out.size;omega) _).trans hB2)
  clear hO2 hBs2 hB2
  obtain ⟨lB1,cB1,fB1⟩:=B1.out
  go_roundw
  case rel=>exact ⟨j+1,hlt,by go_num,by rw [HSN.out,mF];exact HO.out,HW.out,B1.out⟩
  simp [intOf];omega
 obtain rfl:j=np:=by omega
 rw [aI (by have:=HNP.out;omega)] at HO
 obtain ⟨np,hnp⟩ : ∃ np,np=j:=⟨_,rfl⟩
 obtain rfl:=hnp
 have HPT:Hid ((parT f.params).length=np):=h! (by unfold parT;simp [HNP.out])
 go_wp2_with fail
 go_loopw [3,5] (fun u i wr => ∃ j:Nat,j <= nb/\i = .int .i64 j/\Own wr w.heap.size [w.heap.size] 155 2 u (parT f.params ++ (f.blocks.take j).flatMap iS).length (kK (parT f.params ++ (f.blocks.take j).flatMap iS))/\Below w.heap.size w wr/\Box wr w.heap.size #[.slice ap np cp,.int .i64 ar,.int .i64 ce,.slice ab nb cb]) (fun _ i _=>nb - (intOf i).toNat)
 case atStart=>exact ⟨0,aP _,rfl,by simp only [aR,List.flatMap_nil,cK];rw [HPT.out];exact HO.out,HW.out,B1.out⟩
 obtain ⟨j,hj,rfl,hO,hW,hB1⟩:=hrel
 clear lB1 cB1 fB1
 obtain ⟨L,hL⟩ : ∃ L,L=parT f.params ++ (f.blocks.take j).flatMap iS:=⟨_,rfl⟩
 rw [<-hL] at hO
 obtain ⟨oa,oc,rfl⟩:=hO.form
 replace HO:=h! hO
 replace HW:=h! hW
 replace B1:=h! hB1
 have HL:=h! hL
 clear hO hW hB1 hL
 generalize wr=wb at *
 obtain ⟨lB1,cB1,fB1⟩:=B1.out
 by_cases hltb:j < nb
 ·obtain ⟨rfl,hbw⟩:=HBA.out (by omega)
  obtain ⟨x,hjx⟩ : ∃ x,f.blocks[j]? = some x:=⟨_,aB (by have:=HNB.out;omega)⟩
  obtain ⟨api,aii,ati,cpi,cii,cti,hC⟩:=HBX.out j x hjx
  have hsm:=HSM.out j x hjx
  have HFL:=h! (gH iS f.blocks j x hjx)
  have hB1':=hC.phis
  have hB2':=hC.code
  obtain ⟨k0,k1,k2,k3,k4,k5,q1,q2,q3,q4,q5,q6⟩:=hC.below HW.out hbw
  clear q1 q2 q3 q4 q5 q6 hC hjx
  rw [<-HL.out] at hsm
  obtain ⟨pl,hpl⟩ : ∃ pl,pl=x.phis.length:=⟨_,rfl⟩
  obtain ⟨cl,hcl⟩ : ∃ cl,cl=x.code.length:=⟨_,rfl⟩
  obtain ⟨ac,capc,bcd,ocd,hce1,hcc,hcm,hcl16,hca,hcx⟩:=gC hB2'
  obtain ⟨apx,capp,bph,oph,hpe1,hppc,hppm,hpl16,hpa2,hpx2⟩:=fV hB1'
  rw [<-hpl] at hpe1 hppc hpl16 hpa2 k0
  rw [<-hcl] at hce1 hcc hcl16 hca k1
  cases hpe1
  cases hce1
  have HPL:=h! hpl
  have HCL:=h! hcl
  have HPA2:=h! hpa2
  have HPX2:=h! hpx2
  have HCA2:=h! hca
  have HCX2:=h! hcx
  clear hpl hcl hpa2 hpx2 hca hcx hB1' hB2'
  have HSM2:Hid (∀ k,(L ++ (x.phis.take k).flatMap defP).length <= 8192 /\ ∀ k2,(L ++ x.phis.flatMap defP ++ (x.code.take k2).flatMap defI).length <= 8192):=h! (fun k=>⟨by
   have:=iF defP x.phis k
   rw [aQ];omega,fun k2=>by
   have:=iF defI x.code k2
   rw [aQ,aQ];omega⟩)
  clear hsm
  replace HO:=h! (HO.out.more (b:=wb.heap.size) (aF _))
  go_upto_region 10 with (fail)
  have nB6B1:wb.heap.size ≠ w.heap.size:=fun e=>by have:=lB1;omega
  have nB1B6:w.heap.size ≠ wb.heap.size:=fun e=>nB6B1 e.symm
  clear lB1 cB1 fB1
  have hA_:=(Below.refl wb.heap.size wb).alloc (aF _) (.cells #[.slice api pl cpi,.slice aii cl cii,.int .i64 x.term.op,.int .i64 x.term.val,.slice ati x.term.to.length cti,.int .i64 x.term.n] 50)
  replace B1:=h! (B1.out.later hA_)
  replace HO:=h! (HO.out.later hA_)
  replace HW:=h! (HW.out.trans (hA_.mono HW.out.size))
  clear hA_
  have B6:=h! (Box.new wb #[.slice api pl cpi,.slice aii cl cii,.int .i64 x.term.op,.int .i64 x.term.val,.slice ati x.term.to.length cti,.int .i64 x.term.n] 50)
  generalize wb.alloc (.cells #[.slice api pl cpi,.slice aii cl cii,.int .i64 x.term.op,.int .i64 x.term.val,.slice ati x.term.to.length cti,.int .i64 x.term.n] 50)=w6 at *
  obtain ⟨lB1,cB1,fB1⟩:=B1.out
  obtain ⟨lB6,cB6,fB6⟩:=B6.out
  clear k0 k1 k2 k3 k4 k5
  go_wp2_with fail
  go_loopw [3,7] (fun u i wr => ∃ k:Nat,k <= pl/\i = .int .i64 k/\Own wr w.heap.size [wb.heap.size,w.heap.size] 155 2 u (L ++ (x.phis.take k).flatMap defP).length (kK (L ++ (x.phis.take k).flatMap defP))/\Below w.heap.size w wr/\Box wr w.heap.size #[.slice ap np cp,.int .i64 ar,.int .i64 ce,.slice (some ⟨bb,bo,none⟩) nb cb]/\Box wr wb.heap.size #[.slice api pl cpi,.slice aii cl cii,.int .i64 x.term.op,.int .i64 x.term.val,.slice ati x.term.to.length cti,.int .i64 x.term.n]) (fun _ i _=>pl - (intOf i).toNat)
  case atStart=>exact ⟨0,aP _,rfl,by simp only [aR,List.flatMap_nil,cK];exact HO.out,HW.out,B1.out,B6.out⟩
  obtain ⟨k,hk,rfl,hO,hW,hB1,hB6⟩:=hrel
  clear lB1 cB1 fB1 lB6 cB6 fB6
  have hsm:=(HSM2.out (k+1)).1
  have hsm0:=(HSM2.out k).1
  obtain ⟨L1,hL1⟩ : ∃ L1,L1=L ++ (x.phis.take k).flatMap defP:=⟨_,rfl⟩
  rw [<-hL1] at hO hsm0
  obtain ⟨oa1,oc1,rfl⟩:=hO.form
  replace HO:=h! hO
  replace HW:=h! hW
  replace B1:=h! hB1
  replace B6:=h! hB6
  have HL1:=h! hL1
  clear hO hW hB1 hB6 hL1
  generalize wr=w7 at *
  obtain ⟨lB1,cB1,fB1⟩:=B1.out
  obtain ⟨lB6,cB6,fB6⟩:=B6.out
  by_cases hlt:k < pl
  ·obtain ⟨rfl,hbp⟩:=HPA2.out (by omega)
   obtain ⟨p,hkp⟩ : ∃ p,x.phis[k]? = some p:=⟨_,aB (by have:=HPL.out;omega)⟩
   obtain ⟨af,av,cf,cv,hP⟩:=HPX2.out k p hkp
   have HFLP:=h! (gH defP x.phis k p hkp)
   have HP:=h! hP
   have HQ:Hid (L ++ (x.phis.take (k+1)).flatMap defP=L1 ++ [(p.id,p.typ)]):=h! (by rw [HFLP.out, <-List.append_assoc, <-HL1.out];rfl)
   rw [HQ.out,aQ] at hsm
   obtain ⟨nL,hnL⟩ : ∃ nL,nL=L1.length:=⟨_,rfl⟩
   rw [<-hnL] at hsm hsm0 HO ⊢
   have HNL:=h! hnL
   simp only [bB,cD,bH] at hsm
   clear hP hkp hnL
   go_upto_region 13 with (fail)
   refine wp_region_grow 15 (fun kz=>match kz with | 14=>.made w7.heap.size (fun b=>.slice (some ⟨b,0,none⟩) 1 1) #[.int .i64 p.id,.int .i64 p.typ] | _=>.plain) (by kernel_rfl) (by kernel_rfl) ?_ (fun ν => ?_)
   ·(intro k;(try dsimp only);split <;> first | exact True.intro | (intro u w1 w2 hu hb;exact hu.below hb))
   simp only [aK,aR,aM,aT]
   iterate 14 (refine Grow.val (v := ?_) rfl rfl (fun wg hbg hdg => ?_) ?_;rotate_left;(focus ((obtain ⟨lg0,cg0,fg0⟩:=B1.out.later hbg);(obtain ⟨lg1,cg1,fg1⟩:=B6.out.later hbg);(obtain ⟨m0,m1,m2,m3,r1,r2,r3,r4⟩:=HP.out.below (HW.out.trans (hbg.mono HW.out.size)) hbp;clear r1 r2 r3 r4);clear hbg hdg;first | (go_simp;done) | (go_simp;with_reducible rfl)));simp only [Act.put,aA,aC,aD])
   refine Grow.made (T := ?_) rfl rfl (fun wg hbg hdg => ?_) ?_
   rotate_left
   focus ((obtain ⟨lg0,cg0,fg0⟩:=B1.out.later hbg);(obtain ⟨lg1,cg1,fg1⟩:=B6.out.later hbg);(obtain ⟨m0,m1,m2,m3,r1,r2,r3,r4⟩:=HP.out.below (HW.out.trans (hbg.mono HW.out.size)) hbp;clear r1 r2 r3 r4);clear hbg hdg;first | (go_simp;done) | (go_simp;with_reducible rfl))
   simp only [Act.put,Known.val,aA,aC,aD]
   intro wg hb hf hap
   obtain ⟨bBN,hνBN,hBBN,hXBN⟩:=hf 14 (by omega)
   have nBNB1:bBN ≠ w.heap.size:=fun e=>by have:=lB1;omega
   have nB1BN:w.heap.size ≠ bBN:=fun e=>nBNB1 e.symm
   have nBNB6:bBN ≠ wb.heap.size:=fun e=>by have:=lB6;omega
   have nB6BN:wb.heap.size ≠ bBN:=fun e=>nBNB6 e.symm
   simp only [hνBN]
   clear hνBN
   clear hap
   have gBN:=aJ HW.out.size hBBN
   clear hBBN
   clear lB1 cB1 fB1 lB6 cB6 fB6
   replace B1:=h! (B1.out.later hb)
   replace B6:=h! (B6.out.later hb)
   replace HO:=h! (HO.out.later hb)
   replace HW:=h! (HW.out.trans (hb.mono HW.out.size))
   clear hb
   have BN:=h! hXBN
   clear hXBN
   obtain ⟨lB1,cB1,fB1⟩:=B1.out
   obtain ⟨lB6,cB6,fB6⟩:=B6.out
   obtain ⟨lBN,cBN,fBN⟩:=BN.out
   clear hf
   clear lB1 cB1 fB1 lB6 cB6 fB6 lBN cBN fBN
   have lBN:=BN.out.lt
   have lB1:=B1.out.lt
   have lB6:=B6.out.lt
   refine fZ rfl _ _ 152 155 rfl aEB rfl rfl HO.out (Row.of_box (n:=1) (size:=2) BN.out rfl (by omega)) (by simp [Value.oneCell']) (by unfold maxLen;omega) (by omega) (by have:=HW.out.size;omega) (by intro b hb;simp at hb ⊢;omega) ?_
   intro v2 w2 hO2 hBs2 hB2
   clear lBN
   clear lB1
   clear lB6
   replace B1:=h! (hBs2 _ _ (by simp) B1.out)
   replace B6:=h! (hBs2 _ _ (by simp) B6.out)
   replace HO:=h! hO2
   replace HW:=h! (HW.out.trans hB2)
   clear hO2 hBs2 hB2 BN
   obtain ⟨lB1,cB1,fB1⟩:=B1.out
   obtain ⟨lB6,cB6,fB6⟩:=B6.out
   go_wp2
   go_roundw
   case rel=>exact ⟨k+1,hlt,by go_num,by rw [HQ.out,mF,aQ, <-HNL.out];exact HO.out,HW.out,B1.out,B6.out⟩
   simp [intOf];omega
  obtain rfl:k=pl:=by omega
  rw [aI (by have:=HPL.out;omega)] at HL1
  clear hsm hsm0
  go_wp2_with fail
  go_loopw [3,8] (fun u i wr => ∃ q:Nat,q <= cl/\i = .int .i64 q/\Own wr w.heap.size [wb.heap.size,w.heap.size] 155 2 u (L1 ++ (x.code.take q).flatMap defI).length (kK (L1 ++ (x.code.take q).flatMap defI))/\Below w.heap.size w wr/\Box wr w.heap.size #[.slice ap np cp,.int .i64 ar,.int .i64 ce,.slice (some ⟨bb,bo,none⟩) nb cb]/\Box wr wb.heap.size #[.slice api k cpi,.slice aii cl cii,.int .i64 x.term.op,.int .i64 x.term.val,.slice ati x.term.to.length cti,.int .i64 x.term.n]) (fun _ i _=>cl - (intOf i).toNat)
  case atStart=>exact ⟨0,aP _,rfl,by simp only [aR,List.flatMap_nil,cK];exact HO.out,HW.out,B1.out,B6.out⟩
  obtain ⟨q,hq,rfl,hO,hW,hB1,hB6⟩:=hrel
  clear lB1 cB1 fB1 lB6 cB6 fB6
  have hsm:=(HSM2.out 0).2 (q+1)
  have hsm0:=(HSM2.out 0).2 q
  rw [<-HL1.out] at hsm hsm0
  obtain ⟨L2,hL2⟩ : ∃ L2,L2=L1 ++ (x.code.take q).flatMap defI:=⟨_,rfl⟩
  rw [<-hL2] at hO hsm0
  obtain ⟨oa2,oc2,rfl⟩:=hO.form
  replace HO:=h! hO
  replace HW:=h! hW
  replace B1:=h! hB1
  replace B6:=h! hB6
  have HL2:=h! hL2
  clear hO hW hB1 hB6 hL2
  generalize wr=w9 at *
  obtain ⟨lB1,cB1,fB1⟩:=B1.out
  obtain ⟨lB6,cB6,fB6⟩:=B6.out
  by_cases hltq:q < cl
  ·obtain ⟨rfl,hbp⟩:=HCA2.out (by omega)
   obtain ⟨y,hky⟩ : ∃ y,x.code[q]? = some y:=⟨_,aB (by have:=HCL.out;omega)⟩
   obtain ⟨aa,ca,hP⟩:=HCX2.out q y hky
   have HFLC:=h! (gH defI x.code q y hky)
   obtain ⟨m0,m1,m2,m3,r1,r2,r3,r4⟩:=hP.below HW.out hbp
   have HQ:Hid (L1 ++ (x.code.take (q+1)).flatMap defI=L2 ++ defI y):=h! (by rw [HFLC.out, <-List.append_assoc, <-HL2.out])
   rw [HQ.out,aQ] at hsm
   obtain ⟨nL,hnL⟩ : ∃ nL,nL=L2.length:=⟨_,rfl⟩
   rw [<-hnL] at hsm hsm0 HO ⊢
   have HNL:=h! hnL
   have hs0:=oC y.op
   clear r1 r2 r3 r4 hP hky hnL
   go_wp2_with fail
   refine (eO y.op).mono ?_
   rintro e w10 ⟨rfl,rfl⟩
   have HDI:Hid (defI y=if (shp0 y.op).result=0 then [] else [(y.id,(shp0 y.op).result)]):=h! rfl
   obtain ⟨res,hres⟩ : ∃ res,res=(shp0 y.op).result:=⟨_,rfl⟩
   rw [<-hres] at HDI hs0
   simp only [<-hres]
   clear hres
   have hr0:=hs0.2.2.1
   clear hs0
   cases hgt:decide (0 < res)
   ·have HGT:=h! hgt
    go_wp2
    go_roundw
    case rel=>exact ⟨q+1,hltq,by go_num,by rw [HQ.out,HDI.out,if_pos (by have:=HGT.out;simp at this;omega),cK, <-HNL.out];exact HO.out,HW.out,B1.out,B6.out⟩
    simp [intOf];omega
   have HGT:=h! hgt
   have HDI2:Hid (defI y=[(y.id,res)]):=h! (by rw [HDI.out,if_neg (by simp at hgt;omega)])
   rw [HDI2.out] at hsm
   simp only [bB,cD,bH] at hsm
   go_wp2_with (at_builtin;refine fZ rfl _ _ 152 155 rfl aEB rfl rfl (HO.out.alloc _) (Row.of_box (n:=1) (size:=2) (Box.new _ _ _) rfl (by omega)) (by simp [Value.oneCell']) (by unfold maxLen;omega) (by omega) (by simp;have:=HW.out.size;omega) (by intro b hb;simp at hb ⊢;omega) ?_;intro v2 w2 hO2 hBs2 hB2)
   clear lB1 cB1 fB1 lB6 cB6 fB6
   replace B1:=h! (hBs2 _ _ (by simp) (B1.out.alloc _))
   replace B6:=h! (hBs2 _ _ (by simp) (B6.out.alloc _))
   replace HO:=h! hO2
   replace HW:=h! ((HW.out.alloc (by have:=HW.out.size;omega) _).trans hB2)
   clear hO2 hBs2 hB2
   obtain ⟨lB1,cB1,fB1⟩:=B1.out
   obtain ⟨lB6,cB6,fB6⟩:=B6.out
   go_roundw
   case rel=>exact ⟨q+1,hltq,by go_num,by rw [HQ.out,HDI2.out,mF,aQ, <-HNL.out];exact HO.out,HW.out,B1.out,B6.out⟩
   simp [intOf];omega
  obtain rfl:q=cl:=by omega
  rw [aI (by have:=HCL.out;omega)] at HL2
  have HQ:Hid (parT f.params ++ (f.blocks.take (j+1)).flatMap iS=L2):=h! (by rw [HFL.out, <-List.append_assoc, <-HL.out,HL2.out,HL1.out,pS,bV])
  clear hsm hsm0
  go_wp2
  go_roundw
  case rel=>exact ⟨j+1,hltb,by go_num,by rw [HQ.out];exact HO.out.less (by simp),HW.out,B1.out⟩
  simp [intOf];omega
 obtain rfl:j=nb:=by omega
 rw [aI (by have:=HNB.out;omega)] at HL
 rw [<-HVF.out] at HL
 go_wp2
 go_ret
 exact ⟨_,rfl,by rw [<-HL.out];exact HO.out.row,HW.out⟩
structure UseD where
 id:Int
 typ:Int
 blk:Int
 pos:Int
 src:Int
 deriving DecidableEq,Inhabited
def iW (T:List UseD):List Value:=T.flatMap fun u=>[.int .i64 u.id,.int .i64 u.typ,.int .i64 u.blk,.int .i64 u.pos,.int .i64 u.src]
theorem kS (T:List UseD) (a b c d e:Int):iW (T ++ [⟨a,b,c,d,e⟩])=iW T ++ [.int .i64 a,.int .i64 b,.int .i64 c,.int .i64 d,.int .i64 e]:=by unfold iW;simp
def uxP (i:Nat) (p:PhiD):List UseD:=(p.vals.zip p.src).map fun vs=>⟨vs.1,p.typ,i, -1,vs.2⟩
def uxI (i:Nat) (xk:InstrD × Nat):List UseD:=(xk.1.args.zip (shp0 xk.1.op).args).map fun at_=>⟨at_.1,at_.2,i,xk.2,0⟩
def uxT (i:Nat) (b:BlockD):List UseD:=if b.term.op=2 then [⟨b.term.val,2,i,b.code.length,0⟩] else if b.term.op=3 then [⟨b.term.val,0,i,b.code.length,0⟩] else []
def uxB (bi:BlockD × Nat):List UseD:=bi.1.phis.flatMap (uxP bi.2) ++ bi.1.code.zipIdx.flatMap (uxI bi.2) ++ uxT bi.2 bi.1
def uxF (f:FuncD):List UseD:=f.blocks.zipIdx.flatMap uxB
structure Even (f:FuncD):Prop where
 phi:∀ b ∈ f.blocks, ∀ p ∈ b.phis,p.src.length=p.vals.length/\p.vals.length <= 512
 args:∀ b ∈ f.blocks, ∀ x ∈ b.code,x.args.length=(shp0 x.op).args.length
 size:kZ f <= 4096
 len:f.blocks.length <= 512
theorem aH3 (n:Nat):∀ l:List Int,l.Nodup -> (∀ x ∈ l,0 <= x/\x < (n:Int)) -> l.length <= n:=by
 induction n with
 | zero =>
  intro l _ h
  cases l with
  | nil=>simp
  | cons x l=>have:=h x (by simp);omega
 | succ n ih =>
  intro l hnd h
  by_cases hm:(n:Int) ∈ l
  ·have h1:=ih (l.erase (n:Int)) (hnd.erase _) (fun x hx=>by
    have h2:=(hnd.mem_erase_iff).1 hx
    have h3:=h x h2.2
    have h4:=h2.1
    omega)
   rw [List.length_erase_of_mem hm] at h1
   omega
  have h1:=ih l hnd (fun x hx=>by
   have h3:=h x hx
   have h4:x ≠ n:=fun e=>hm (e ▸ hx)
   omega)
  omega
theorem kF {f:FuncD} (h:gM f=true):Even f:=by
 have h0:=h
 unfold gM iH at h0
 simp only [aN,decide_eq_true_eq,aZ] at h0
 have hblk:∀ b ∈ f.blocks, ∃ j,fN f.blocks.length f.arrays f.cells (b,j)=true:=fun b hb=>by
  obtain ⟨j,hj,rfl⟩:=dQ hb
  exact ⟨j,h0.2 (f.blocks[j],j) (by rw [bJ];exact ⟨j,by simp [hj]⟩)⟩
 refine ⟨fun b hb p hp => ?_,fun b hb x hx => ?_,h0.1.1.2,h0.1.1.1.2⟩
 ·obtain ⟨j,h1⟩:=hblk b hb
  unfold fN at h1
  simp only [aN,aZ] at h1
  have h2:=h1.1.1.2 p hp
  unfold iR at h2
  simp only [aN,beq_iff_eq,aZ,decide_eq_true_eq] at h2
  refine ⟨h2.1.1.2, ?_⟩
  have h3:=aH3 f.blocks.length p.src h2.2 (fun x hx=>by have:=h2.1.2 x hx;unfold numB at this;simpa using this)
  have h4:=h0.1.1.1.2
  have h5:=h2.1.1.2
  omega
 obtain ⟨j,h1⟩:=hblk b hb
 unfold fN at h1
 simp only [aN,aZ] at h1
 have h2:=h1.1.2 x hx
 unfold fQ at h2
 simp only [aN,beq_iff_eq] at h2
 exact h2.1.1.2
theorem yZ {α β : Type} (g : α -> List β) (c:Nat) (l:List α) (h:∀ x ∈ l,(g x).length <= c):(l.flatMap g).length <= c * l.length:=by
 induction l with
 | nil=>simp
 | cons x l ih =>
  have h1:=h x (by simp)
  have h2:=ih fun y hy=>h y (by simp [hy])
  rw [cG,aQ,bB,Nat.mul_add]
  omega
theorem aGA {f:FuncD} (he:Even f) {b:BlockD} {j:Nat} (hb:b ∈ f.blocks):((uxB (b,j)).length:Int) <= 512 * gD b:=by
 have h1:=yZ (uxP j) 512 b.phis (fun p hp=>by unfold uxP;rw [bD,eJ];have:=he.phi b hb p hp;omega)
 have h2:=yZ (uxI j) 3 b.code.zipIdx (fun xk hx=>by
  unfold uxI;rw [bD,eJ]
  have:=(oC xk.1.op).1;omega)
 have h3:(uxT j b).length <= 1:=by unfold uxT;split;simp;split <;> simp
 rw [dU] at h2
 unfold uxB gD
 rw [aQ,aQ]
 simp only
 omega
theorem zA {f:FuncD} (he:Even f):(uxF f).length <= 2097152:=by
 have key:∀ (l:List (BlockD × Nat)),(∀ x ∈ l,x.1 ∈ f.blocks) -> ((l.flatMap uxB).length:Int) <= 512 * ((l.map (fun x=>gD x.1)).sum):=by
  intro l
  induction l with
  | nil=>intro _;simp
  | cons x l ih =>
   intro h
   have h1:=aGA he (j:=x.2) (h x (by simp))
   have h2:=ih fun y hy=>h y (by simp [hy])
   rw [cG,aQ,cR,List.sum_cons]
   have e:((uxB x).length:Int)=((uxB (x.1,x.2)).length:Int):=rfl
   omega
 have h1:=key f.blocks.zipIdx (fun x hx=>by
  obtain ⟨i,hi,rfl⟩:=dQ hx
  simp)
 have h2:f.blocks.zipIdx.map (fun x=>gD x.1)=f.blocks.map gD:=by
  have:f.blocks.zipIdx.map (fun x=>gD x.1)=(f.blocks.zipIdx.map (·.1)).map gD:=by rw [dP];rfl
  rw [this,List.zipIdx_map_fst]
 rw [h2] at h1
 have h3:=he.size
 unfold kZ at h3
 unfold uxF
 omega
def UseD.pair (u:UseD):Int × Int:=(u.id,u.typ)
theorem uR {f:FuncD} (he:Even f):(uxF f).map UseD.pair=jD f:=by
 have hB:∀ b ∈ f.blocks, ∀ j,(uxB (b,j)).map UseD.pair=mZ b:=by
  intro b hb j
  unfold uxB mZ
  rw [bF,bF]
  congr 1
  ·congr 1
   ·simp only
    rw [List.map_flatMap]
    have:∀ l:List PhiD,(∀ p ∈ l,p.src.length=p.vals.length) -> l.flatMap (fun p=>(uxP j p).map UseD.pair)=l.flatMap nW:=by
     intro l
     induction l with
     | nil=>intro _;rfl
     | cons p l ih =>
      intro h
      rw [cG,cG,ih fun q hq=>h q (by simp [hq])]
      congr 1
      unfold uxP nW
      rw [dP]
      have h1:=h p (by simp)
      have h2:(p.vals.zip p.src).map Prod.fst=p.vals:=List.map_fst_zip (by omega)
      have h3:(p.vals.zip p.src).map (UseD.pair ∘ fun vs=>⟨vs.1,p.typ,j, -1,vs.2⟩)=((p.vals.zip p.src).map Prod.fst).map fun v=>(v,p.typ):=by rw [dP];rfl
      rw [h3,h2]
    exact this b.phis fun p hp=>(he.phi b hb p hp).1
   simp only
   rw [List.map_flatMap]
   have:∀ l:List (InstrD × Nat),l.flatMap (fun x=>(uxI j x).map UseD.pair)=(l.map (·.1)).flatMap oW:=by
    intro l
    induction l with
    | nil=>rfl
    | cons x l ih =>
     rw [cG,cR,cG,ih]
     congr 1
     unfold uxI oW
     rw [dP]
     have:(UseD.pair ∘ fun at_:Int × Int=>(⟨at_.1,at_.2,j,x.2,0⟩ : UseD))=id:=rfl
     rw [this,List.map_id]
   rw [this,List.zipIdx_map_fst]
  unfold uxT oX
  simp only
  split
  ·rfl
  split <;> rfl
 unfold uxF jD
 rw [List.map_flatMap]
 have:∀ l:List (BlockD × Nat),(∀ x ∈ l,x.1 ∈ f.blocks) -> l.flatMap (fun x=>(uxB x).map UseD.pair)=(l.map (·.1)).flatMap mZ:=by
  intro l
  induction l with
  | nil=>intro _;rfl
  | cons x l ih =>
   intro h
   rw [cG,cR,cG,ih fun y hy=>h y (by simp [hy])]
   congr 1
   exact hB x.1 (h x (by simp)) x.2
 rw [this _ (fun x hx=>by obtain ⟨i,hi,rfl⟩:=dQ hx;simp),List.zipIdx_map_fst]
end Go.Proofs.YtcmflfkpeodicaaGreat
