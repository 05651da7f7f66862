/- Part 17. -/
import Derived.Test.YtcmflfkpeodicaaGreatIRA16
namespace Go.Proofs.YtcmflfkpeodicaaGreat
set_option linter.all false
open Go.RowKit
theorem aBU:Elem Tryz.prog 124 127 (.agg #[.int .i64 0,.int .i64 0,.int .i64 0,.int .i64 0,.int .i64 0]) 5 40:=pI Tryz.underlying124 (by kernel_rfl) rfl (by omega)
def aH1 (T:List UseD) (w:World) (e:Ending) (w' : World):Prop := ∃ u,e = .returned u/\w'.ownsRow w.heap.size 127 5 u T.length (iW T)/\Below w.heap.size w w'
theorem New.box {T:TypeId} {w w' : World} {u:Value} {xs:List Int} (h:New T w w' u xs) (hp:0 < xs.length):∃ g cap A,u = .slice (some ⟨g,0,none⟩) xs.length cap/\w.heap.size <= g/\Box w' g A /\ ∀ j,j < xs.length -> A[j]? = some (.int .i64 (xs.getD j 0)):=by
 rcases h.own.2 with ⟨_,h2⟩ | ⟨g,cap,cur,hv,hb,hh,h1,h2,h3,h4⟩
 ·omega
 refine ⟨g,cap,cur,hv,hb,⟨(aS.1 hh).1,fun o => ?_,fun o => ?_⟩,fun j hj => ?_⟩
 ·simp only [World.cell?,hh];simp
 ·simp only [World.frozen?,hh];simp
 have e:=congrArg (fun l=>l[j]?) h4
 simp only [aU,eX xs j hj,cS] at e
 rw [bE] at e
 split at e
 ·simpa using e
 cases e
set_option maxHeartbeats 12800000 in
set_option maxRecDepth 100000 in
theorem yW {w:World} {v:Value} {f:FuncD} (hv:gG w v f) (he:Even f):Calls Tryz.prog 64 #[v] w (aH1 (uxF f) w):=by
 obtain ⟨ap,cp,ab,cb,rfl,hp,ha,hc,hB⟩:=hv.form
 obtain ⟨a2,c2,bb,bo,hbe,hbc,hbm,hbl,hba,hbx⟩:=eW hB
 cases hbe
 have htot:=zA he
 have HSM:Hid (∀ j x,f.blocks[j]? = some x -> ((f.blocks.zipIdx.take j).flatMap uxB).length+(x.phis.flatMap (uxP j)).length+(x.code.zipIdx.flatMap (uxI j)).length+(uxT j x).length <= 2097152):=h! (fun j x hj=>by
  have h1:=iF uxB f.blocks.zipIdx (j+1)
  rw [gH uxB _ _ (x,j) (by simp [cN,hj]),aQ] at h1
  have h2:(uxB (x,j)).length=(x.phis.flatMap (uxP j)).length+(x.code.zipIdx.flatMap (uxI j)).length+(uxT j x).length:=by unfold uxB;rw [aQ,aQ]
  have h3:(uxF f).length=(f.blocks.zipIdx.flatMap uxB).length:=rfl
  omega)
 have HEV:Hid (Even f):=h! he
 have HVF:Hid (uxF f=f.blocks.zipIdx.flatMap uxB):=h! rfl
 obtain ⟨np,hnp⟩ : ∃ np,np=f.params.length:=⟨_,rfl⟩
 obtain ⟨nb,hnb⟩ : ∃ nb,nb=f.blocks.length:=⟨_,rfl⟩
 rw [<-hnp]
 rw [<-hnb] at hbc hba hbl ⊢
 have HNB:=h! hnb
 have HBA:=h! hba
 have HBX:=h! hbx
 clear hp ha hc hB hv hba hbx hnp hnb he htot
 generalize f.arrays=ar at *
 generalize f.cells=ce at *
 go_enter Tryz.func64,Tryz.ntmps64
 go_upto_region 1 with (fail)
 have hA_:=(Below.refl w.heap.size w).alloc (aF _) (.cells #[.slice ap np cp,.int .i64 ar,.int .i64 ce,.slice ab nb cb] 25)
 have HW:=h! hA_
 clear hA_
 have B1:=h! (Box.new w #[.slice ap np cp,.int .i64 ar,.int .i64 ce,.slice ab nb cb] 25)
 generalize w.alloc (.cells #[.slice ap np cp,.int .i64 ar,.int .i64 ce,.slice ab nb cb] 25)=wv at *
 obtain ⟨lB1,cB1,fB1⟩:=B1.out
 go_wp2_with fail
 have HO:Hid (Own (wv.alloc (.cells #[] 127)) w.heap.size [w.heap.size] 127 5 (.slice (some ⟨wv.heap.size,0,none⟩) 0 0) 0 []):=h! (lQ HW.out.size (by intro b hb;simp at hb;omega) 5)
 have hbA:=(Below.refl wv.heap.size wv).alloc (aF _) (.cells #[] 127)
 clear lB1 cB1 fB1
 replace B1:=h! (B1.out.later hbA)
 replace HW:=h! (HW.out.trans (hbA.mono HW.out.size))
 clear hbA
 obtain ⟨lB1,cB1,fB1⟩:=B1.out
 generalize wv.alloc _=wa at *
 go_loopw [3,4] (fun u i wr => ∃ j:Nat,j <= nb/\i = .int .i64 j/\Own wr w.heap.size [w.heap.size] 127 5 u ((f.blocks.zipIdx.take j).flatMap uxB).length (iW ((f.blocks.zipIdx.take j).flatMap uxB))/\Below w.heap.size w wr/\Box wr w.heap.size #[.slice ap np cp,.int .i64 ar,.int .i64 ce,.slice ab nb cb]) (fun _ i _=>nb - (intOf i).toNat)
 case atStart=>exact ⟨0,aP _,rfl,HO.out,HW.out,B1.out⟩
 obtain ⟨j,hj,rfl,hO,hW,hB1⟩:=hrel
 clear lB1 cB1 fB1
 obtain ⟨L,hL⟩ : ∃ L,L=(f.blocks.zipIdx.take j).flatMap uxB:=⟨_,rfl⟩
 rw [<-hL] at hO
 obtain ⟨oa,oc,rfl⟩:=hO.form
 replace HO:=h! hO
 replace HW:=h! hW
 replace B1:=h! hB1
 have HL:=h! hL
 clear hO hW hB1 hL
 generalize wr=wb at *
 obtain ⟨lB1,cB1,fB1⟩:=B1.out
 by_cases hltb:j < nb
 ·obtain ⟨rfl,hbw⟩:=HBA.out (by omega)
  obtain ⟨x,hjx⟩ : ∃ x,f.blocks[j]? = some x:=⟨_,aB (by have:=HNB.out;omega)⟩
  obtain ⟨api,aii,ati,cpi,cii,cti,hC⟩:=HBX.out j x hjx
  have hsm:=HSM.out j x hjx
  have HFL:=h! (gH uxB f.blocks.zipIdx j (x,j) (by simp [cN,hjx]))
  have HMX:=h! (aG hjx)
  have hB1':=hC.phis
  have hB2':=hC.code
  obtain ⟨k0,k1,k2,k3,k4,k5,q1,q2,q3,q4,q5,q6⟩:=hC.below HW.out hbw
  clear q1 q2 q3 q4 q5 q6 hC hjx
  rw [<-HL.out] at hsm
  obtain ⟨pl,hpl⟩ : ∃ pl,pl=x.phis.length:=⟨_,rfl⟩
  obtain ⟨cl,hcl⟩ : ∃ cl,cl=x.code.length:=⟨_,rfl⟩
  obtain ⟨ac,capc,bcd,ocd,hce1,hcc,hcm,hcl16,hca,hcx⟩:=gC hB2'
  obtain ⟨apx,capp,bph,oph,hpe1,hppc,hppm,hpl16,hpa2,hpx2⟩:=fV hB1'
  rw [<-hpl] at hpe1 hppc hpl16 hpa2 k0
  rw [<-hcl] at hce1 hcc hcl16 hca k1
  cases hpe1
  cases hce1
  have HPL:=h! hpl
  have HCL:=h! hcl
  have HPA2:=h! hpa2
  have HPX2:=h! hpx2
  have HCA2:=h! hca
  have HCX2:=h! hcx
  clear hpl hcl hpa2 hpx2 hca hcx hB1' hB2'
  have HSM2:=h! hsm
  clear hsm
  replace HO:=h! (HO.out.more (b:=wb.heap.size) (aF _))
  go_upto_region 6 with (fail)
  have nB5B1:wb.heap.size ≠ w.heap.size:=fun e=>by have:=lB1;omega
  have nB1B5:w.heap.size ≠ wb.heap.size:=fun e=>nB5B1 e.symm
  clear lB1 cB1 fB1
  have hA_:=(Below.refl wb.heap.size wb).alloc (aF _) (.cells #[.slice api pl cpi,.slice aii cl cii,.int .i64 x.term.op,.int .i64 x.term.val,.slice ati x.term.to.length cti,.int .i64 x.term.n] 50)
  replace B1:=h! (B1.out.later hA_)
  replace HO:=h! (HO.out.later hA_)
  replace HW:=h! (HW.out.trans (hA_.mono HW.out.size))
  clear hA_
  have B5:=h! (Box.new wb #[.slice api pl cpi,.slice aii cl cii,.int .i64 x.term.op,.int .i64 x.term.val,.slice ati x.term.to.length cti,.int .i64 x.term.n] 50)
  generalize wb.alloc (.cells #[.slice api pl cpi,.slice aii cl cii,.int .i64 x.term.op,.int .i64 x.term.val,.slice ati x.term.to.length cti,.int .i64 x.term.n] 50)=w6 at *
  obtain ⟨lB1,cB1,fB1⟩:=B1.out
  obtain ⟨lB5,cB5,fB5⟩:=B5.out
  clear k0 k1 k2 k3 k4 k5
  go_wp2_with fail
  go_loopw [3,6] (fun u i wr => ∃ k:Nat,k <= pl/\i = .int .i64 k/\Own wr w.heap.size [wb.heap.size,w.heap.size] 127 5 u (L ++ (x.phis.take k).flatMap (uxP j)).length (iW (L ++ (x.phis.take k).flatMap (uxP j)))/\Below w.heap.size w wr/\Box wr w.heap.size #[.slice ap np cp,.int .i64 ar,.int .i64 ce,.slice (some ⟨bb,bo,none⟩) nb cb]/\Box wr wb.heap.size #[.slice api pl cpi,.slice aii cl cii,.int .i64 x.term.op,.int .i64 x.term.val,.slice ati x.term.to.length cti,.int .i64 x.term.n]) (fun _ i _=>pl - (intOf i).toNat)
  case atStart=>exact ⟨0,aP _,rfl,by simp only [aR,List.flatMap_nil,cK];exact HO.out,HW.out,B1.out,B5.out⟩
  obtain ⟨k,hk,rfl,hO,hW,hB1,hB5⟩:=hrel
  clear lB1 cB1 fB1 lB5 cB5 fB5
  obtain ⟨L1,hL1⟩ : ∃ L1,L1=L ++ (x.phis.take k).flatMap (uxP j):=⟨_,rfl⟩
  rw [<-hL1] at hO
  obtain ⟨oa1,oc1,rfl⟩:=hO.form
  replace HO:=h! hO
  replace HW:=h! hW
  replace B1:=h! hB1
  replace B5:=h! hB5
  have HL1:=h! hL1
  clear hO hW hB1 hB5 hL1
  generalize wr=w7 at *
  obtain ⟨lB1,cB1,fB1⟩:=B1.out
  obtain ⟨lB5,cB5,fB5⟩:=B5.out
  by_cases hlt:k < pl
  ·obtain ⟨rfl,hbp⟩:=HPA2.out (by omega)
   obtain ⟨p,hkp⟩ : ∃ p,x.phis[k]? = some p:=⟨_,aB (by have:=HPL.out;omega)⟩
   obtain ⟨af,av,cf,cv,hP⟩:=HPX2.out k p hkp
   have HFLP:=h! (gH (uxP j) x.phis k p hkp)
   have hev:=HEV.out.phi x HMX.out p (aG hkp)
   have hsmp:L1.length+(uxP j p).length <= 2097152:=by
    have h1:=HSM2.out
    have h2:=iF (uxP j) x.phis (k+1)
    rw [HFLP.out,aQ] at h2
    rw [HL1.out,aQ]
    omega
   obtain ⟨vl,hvl⟩ : ∃ vl,vl=p.vals.length:=⟨_,rfl⟩
   have hxl:(uxP j p).length=vl:=by unfold uxP;rw [bD,eJ];omega
   rw [hxl] at hsmp
   obtain ⟨av',cv',bv,ov,hve,hvc,hvm,hva,hvx⟩:=hP.vals.parts
   obtain ⟨as',cs',bs,os,hse,hsc,hsm',hsa,hsx⟩:=hP.src.parts
   cases hve
   cases hse
   have HP:=h! hP
   rw [hev.1] at hsc hsa hsx
   rw [<-hvl] at hvc hva hvx hsc hsa hsx
   have HVL:=h! hvl
   have HSL:Hid (p.src.length=vl):=h! (by rw [hev.1,hvl])
   have HVA:=h! hva
   have HVX:=h! hvx
   have HSA:=h! hsa
   have HSX:=h! hsx
   have hv512:vl <= 512:=by omega
   obtain ⟨nL,hnL⟩ : ∃ nL,nL=L1.length:=⟨_,rfl⟩
   rw [<-hnL] at hsmp HO ⊢
   have HNL:=h! hnL
   have HXL:=h! hxl
   clear hP hkp hnL hev hvl hva hvx hsa hsx hxl
   go_wp2_with fail
   go_loopw [3,7] (fun u i wr => ∃ q:Nat,q <= vl/\i = .int .i64 q/\Own wr w.heap.size [wb.heap.size,w.heap.size] 127 5 u (nL+q) (iW (L1 ++ (uxP j p).take q))/\Below w.heap.size w wr/\Box wr w.heap.size #[.slice ap np cp,.int .i64 ar,.int .i64 ce,.slice (some ⟨bb,bo,none⟩) nb cb]/\Box wr wb.heap.size #[.slice (some ⟨bph,oph,none⟩) pl cpi,.slice aii cl cii,.int .i64 x.term.op,.int .i64 x.term.val,.slice ati x.term.to.length cti,.int .i64 x.term.n]) (fun _ i _=>vl - (intOf i).toNat)
   case atStart=>exact ⟨0,aP _,rfl,by simp only [aR,cK];exact HO.out,HW.out,B1.out,B5.out⟩
   obtain ⟨q,hq,rfl,hO,hW,hB1,hB5⟩:=hrel
   clear lB1 cB1 fB1 lB5 cB5 fB5
   obtain ⟨oa2,oc2,rfl⟩:=hO.form
   replace HO:=h! hO
   replace HW:=h! hW
   replace B1:=h! hB1
   replace B5:=h! hB5
   clear hO hW hB1 hB5
   generalize wr=w9 at *
   obtain ⟨lB1,cB1,fB1⟩:=B1.out
   obtain ⟨lB5,cB5,fB5⟩:=B5.out
   obtain ⟨m0,m1,m2,m3,r1,r2,r3,r4⟩:=HP.out.below HW.out hbp
   rw [HSL.out] at m2
   rw [<-HVL.out] at m3
   clear r1 r2 r3 r4
   by_cases hltq:q < vl
   ·obtain ⟨rfl,hbv⟩:=HVA.out (by omega)
    obtain ⟨rfl,hbs⟩:=HSA.out (by omega)
    have HVV:=h! (HVX.out q hltq)
    have HSS:=h! (HSX.out q hltq)
    have HTS:=h! (eP (uxP j p) q ⟨p.vals.getD q 0,p.typ,j, -1,p.src.getD q 0⟩ (by
     unfold uxP
     rw [aU,(cT (z:=(p.vals.getD q 0,p.src.getD q 0))).2 ⟨eX p.vals q (by have:=HVL.out;omega),eX p.src q (by have:=HSL.out;omega)⟩]
     rfl))
    have HMM:Hid (∀ W,Below w9.heap.size w9 W -> W.cell? ⟨bph,oph+k * 4+1,none⟩=some (.int .i64 p.typ)/\W.cell? ⟨bph,oph+k * 4+2,none⟩=some (.slice (some ⟨bs,os,none⟩) vl cf)/\W.cell? ⟨bph,oph+k * 4+3,none⟩=some (.slice (some ⟨bv,ov,none⟩) vl cv)):=h! (fun W hb=>by
     have hb2:=HW.out.trans (hb.mono HW.out.size)
     obtain ⟨z0,z1,z2,z3,_,_,_,_⟩:=HP.out.below hb2 hbp
     rw [HSL.out] at z2
     rw [<-HVL.out] at z3
     exact ⟨z1,z2,z3⟩)
    generalize p.vals.getD q 0=va at *
    generalize p.src.getD q 0=sa at *
    go_upto_region 12 with (fail)
    clear m0 m1 m2 m3
    refine wp_region_grow 28 (fun kz=>match kz with | 27=>.made w9.heap.size (fun b=>.slice (some ⟨b,0,none⟩) 1 1) #[.int .i64 va,.int .i64 p.typ,.int .i64 j,.int .i64 (-1),.int .i64 sa] | _=>.plain) (by kernel_rfl) (by kernel_rfl) ?_ (fun ν => ?_)
    ·(intro k;(try dsimp only);split <;> first | exact True.intro | (intro u w1 w2 hu hb;exact hu.below hb))
    simp only [aK,aR,aM,aT]
    iterate 27 (refine Grow.val (v := ?_) rfl rfl (fun wg hbg hdg => ?_) ?_;rotate_left;(focus ((obtain ⟨lg0,cg0,fg0⟩:=B1.out.later hbg);(obtain ⟨lg1,cg1,fg1⟩:=B5.out.later hbg);(obtain ⟨m1,m2,m3⟩:=HMM.out wg hbg);(have hvv:=((HW.out.trans (hbg.mono HW.out.size)).cell hbv).trans HVV.out);(have hss:=((HW.out.trans (hbg.mono HW.out.size)).cell hbs).trans HSS.out);clear hbg hdg;first | (go_simp;done) | (go_simp;with_reducible rfl)));simp only [Act.put,aA,aC,aD])
    refine Grow.made (T := ?_) rfl rfl (fun wg hbg hdg => ?_) ?_
    rotate_left
    focus ((obtain ⟨lg0,cg0,fg0⟩:=B1.out.later hbg);(obtain ⟨lg1,cg1,fg1⟩:=B5.out.later hbg);(obtain ⟨m1,m2,m3⟩:=HMM.out wg hbg);(have hvv:=((HW.out.trans (hbg.mono HW.out.size)).cell hbv).trans HVV.out);(have hss:=((HW.out.trans (hbg.mono HW.out.size)).cell hbs).trans HSS.out);clear hbg hdg;first | (go_simp;done) | (go_simp;with_reducible rfl))
    simp only [Act.put,Known.val,aA,aC,aD]
    intro wg hb hf hap
    obtain ⟨bBN,hνBN,hBBN,hXBN⟩:=hf 27 (by omega)
    have nBNB1:bBN ≠ w.heap.size:=fun e=>by have:=lB1;omega
    have nB1BN:w.heap.size ≠ bBN:=fun e=>nBNB1 e.symm
    have nBNB5:bBN ≠ wb.heap.size:=fun e=>by have:=lB5;omega
    have nB5BN:wb.heap.size ≠ bBN:=fun e=>nBNB5 e.symm
    simp only [hνBN]
    clear hνBN
    clear hap
    have gBN:=aJ HW.out.size hBBN
    clear hBBN
    clear lB1 cB1 fB1 lB5 cB5 fB5
    replace B1:=h! (B1.out.later hb)
    replace B5:=h! (B5.out.later hb)
    replace HO:=h! (HO.out.later hb)
    replace HW:=h! (HW.out.trans (hb.mono HW.out.size))
    clear hb
    have BN:=h! hXBN
    clear hXBN
    obtain ⟨lB1,cB1,fB1⟩:=B1.out
    obtain ⟨lB5,cB5,fB5⟩:=B5.out
    obtain ⟨lBN,cBN,fBN⟩:=BN.out
    clear hf
    clear lB1 cB1 fB1 lB5 cB5 fB5 lBN cBN fBN
    have lBN:=BN.out.lt
    have lB1:=B1.out.lt
    have lB5:=B5.out.lt
    refine fZ rfl _ _ 124 127 rfl aBU rfl rfl HO.out (Row.of_box (n:=1) (size:=5) BN.out rfl (by omega)) (by simp [Value.oneCell']) (by unfold maxLen;omega) (by omega) (by have:=HW.out.size;omega) (by intro b hb;simp at hb ⊢;omega) ?_
    intro v2 w2 hO2 hBs2 hB2
    clear lBN
    clear lB1
    clear lB5
    replace B1:=h! (hBs2 _ _ (by simp) B1.out)
    replace B5:=h! (hBs2 _ _ (by simp) B5.out)
    replace HO:=h! hO2
    replace HW:=h! (HW.out.trans hB2)
    clear hO2 hBs2 hB2 BN
    obtain ⟨lB1,cB1,fB1⟩:=B1.out
    obtain ⟨lB5,cB5,fB5⟩:=B5.out
    go_wp2
    go_roundw
    case rel=>exact ⟨q+1,hltq,by go_num,by rw [HTS.out, <-List.append_assoc,kS];exact HO.out,HW.out,B1.out,B5.out⟩
    simp [intOf];omega
   obtain rfl:q=vl:=by omega
   rw [aI (by rw [HXL.out];omega)] at HO
   have HQ:Hid (L ++ (x.phis.take (k+1)).flatMap (uxP j)=L1 ++ uxP j p):=h! (by rw [HFLP.out, <-List.append_assoc, <-HL1.out])
   go_wp2
   go_roundw
   case rel=>exact ⟨k+1,hlt,by go_num,by rw [HQ.out,aQ, <-HNL.out,HXL.out];exact HO.out,HW.out,B1.out,B5.out⟩
   simp [intOf];omega
  obtain rfl:k=pl:=by omega
  rw [aI (by have:=HPL.out;omega)] at HL1
  go_wp2_with fail
  go_loopw [3,8] (fun u i wr => ∃ q:Nat,q <= cl/\i = .int .i64 q/\Own wr w.heap.size [wb.heap.size,w.heap.size] 127 5 u (L1 ++ (x.code.zipIdx.take q).flatMap (uxI j)).length (iW (L1 ++ (x.code.zipIdx.take q).flatMap (uxI j)))/\Below w.heap.size w wr/\Box wr w.heap.size #[.slice ap np cp,.int .i64 ar,.int .i64 ce,.slice (some ⟨bb,bo,none⟩) nb cb]/\Box wr wb.heap.size #[.slice api k cpi,.slice aii cl cii,.int .i64 x.term.op,.int .i64 x.term.val,.slice ati x.term.to.length cti,.int .i64 x.term.n]) (fun _ i _=>cl - (intOf i).toNat)
  case atStart=>exact ⟨0,aP _,rfl,by simp only [aR,List.flatMap_nil,cK];exact HO.out,HW.out,B1.out,B5.out⟩
  obtain ⟨q,hq,rfl,hO,hW,hB1,hB5⟩:=hrel
  clear lB1 cB1 fB1 lB5 cB5 fB5
  obtain ⟨L2,hL2⟩ : ∃ L2,L2=L1 ++ (x.code.zipIdx.take q).flatMap (uxI j):=⟨_,rfl⟩
  rw [<-hL2] at hO
  obtain ⟨oa2,oc2,rfl⟩:=hO.form
  replace HO:=h! hO
  replace HW:=h! hW
  replace B1:=h! hB1
  replace B5:=h! hB5
  have HL2:=h! hL2
  clear hO hW hB1 hB5 hL2
  generalize wr=w9 at *
  obtain ⟨lB1,cB1,fB1⟩:=B1.out
  obtain ⟨lB5,cB5,fB5⟩:=B5.out
  obtain ⟨nL,hnL⟩ : ∃ nL,nL=L2.length:=⟨_,rfl⟩
  rw [<-hnL] at HO ⊢
  have HNL:=h! hnL
  clear hnL
  by_cases hltq:q < cl
  ·obtain ⟨rfl,hbp⟩:=HCA2.out (by omega)
   obtain ⟨y,hky⟩ : ∃ y,x.code[q]? = some y:=⟨_,aB (by have:=HCL.out;omega)⟩
   obtain ⟨aa,ca,hP⟩:=HCX2.out q y hky
   have HFLC:=h! (gH (uxI j) x.code.zipIdx q (y,q) (by simp [cN,hky]))
   have hev:=HEV.out.args x HMX.out y (aG hky)
   have HQ:Hid (L1 ++ (x.code.zipIdx.take (q+1)).flatMap (uxI j)=L2 ++ uxI j (y,q)):=h! (by rw [HFLC.out, <-List.append_assoc, <-HL2.out])
   have hsmp:nL+(uxI j (y,q)).length <= 2097152:=by
    have h1:=HSM2.out
    have h2:=iF (uxI j) x.code.zipIdx (q+1)
    rw [HFLC.out,aQ] at h2
    rw [HNL.out,HL2.out,aQ,HL1.out,aQ]
    omega
   obtain ⟨al,hal⟩ : ∃ al,al=y.args.length:=⟨_,rfl⟩
   rw [<-hal] at hev
   have hxl:(uxI j (y,q)).length=al:=by unfold uxI;rw [bD,eJ];simp only;omega
   rw [hxl] at hsmp
   obtain ⟨av',cv',bv,ov,hve,hvc,hvm,hva,hvx⟩:=hP.args.parts
   cases hve
   rw [<-hal] at hvc hva hvx
   have HP:=h! hP
   have HAL:=h! hal
   have HVA:=h! hva
   have HVX:=h! hvx
   have HEVA:=h! hev
   have HXL:=h! hxl
   clear hP hky hal hva hvx hev hxl
   obtain ⟨m0,m1,m2,m3,r1,r2,r3,r4⟩:=HP.out.below HW.out hbp
   clear r1 r2 r3 r4
   go_wp2_with fail
   clear m0 m1 m2 m3
   refine (aDF y.op).mono ?_
   rintro e w10 ⟨u,rfl,hu,hb10⟩
   obtain ⟨sargs,hsa⟩ : ∃ sargs,sargs=(shp0 y.op).args:=⟨_,rfl⟩
   have HUX:Hid (uxI j (y,q)=(y.args.zip sargs).map fun at_=>⟨at_.1,at_.2,j,q,0⟩):=h! (by rw [hsa];rfl)
   rw [<-hsa] at hu HEVA
   have hHO9:=HO.out
   clear hsa
   by_cases hs0:al=0
   ·have hul:∃ ua uc,u = .slice ua 0 uc:=by
     obtain ⟨ua,uc,h⟩:=hu.ints.form
     have h2:=HEVA.out
     exact ⟨ua,uc,by rw [h];congr 1;omega⟩
    obtain ⟨ua,uc,rfl⟩:=hul
    have HS0:=h! hs0
    clear hu hs0 hHO9
    clear lB1 cB1 fB1 lB5 cB5 fB5
    replace B1:=h! (B1.out.later hb10)
    replace B5:=h! (B5.out.later hb10)
    replace HO:=h! (HO.out.later hb10)
    replace HW:=h! (HW.out.trans (hb10.mono HW.out.size))
    clear hb10
    obtain ⟨lB1,cB1,fB1⟩:=B1.out
    obtain ⟨lB5,cB5,fB5⟩:=B5.out
    go_wp2_with fail
    go_loopw [3,12] (fun u i wr=>u = .slice oa2 nL oc2/\i = .int .i64 0/\wr=w10) (fun _ _ _=>0)
    case atStart=>exact ⟨rfl,rfl,rfl⟩
    case round =>
     obtain ⟨rfl,rfl,rfl⟩:=hrel
     go_wp2
     go_roundw
     case rel=>exact ⟨q+1,hltq,by go_num,by rw [HQ.out,aQ, <-HNL.out,show uxI j (y,q)=[] by (rw [<-List.length_eq_zero_iff,HXL.out];exact HS0.out),cK];exact HO.out,HW.out,B1.out,B5.out⟩
     simp [intOf];omega
   obtain ⟨g,cap,A,rfl,hg,hbox,hAx⟩:=hu.box (by have:=HEVA.out;omega)
   replace HO:=h! (hHO9.more (b:=g) hg)
   have HSL:Hid (sargs.length=al):=h! HEVA.out.symm
   rw [HSL.out]
   have BT:=h! hbox
   have HAX:=h! hAx
   have n1:g ≠ wb.heap.size:=fun e=>by omega
   have n2:g ≠ w.heap.size:=fun e=>by omega
   have n3:wb.heap.size ≠ g:=fun e=>n1 e.symm
   have n4:w.heap.size ≠ g:=fun e=>n2 e.symm
   have halp:0 < al:=by omega
   clear hu hs0 hHO9 hbox hAx
   clear lB1 cB1 fB1 lB5 cB5 fB5
   replace B1:=h! (B1.out.later hb10)
   replace B5:=h! (B5.out.later hb10)
   replace HO:=h! (HO.out.later hb10)
   replace HW:=h! (HW.out.trans (hb10.mono HW.out.size))
   clear hb10
   obtain ⟨lB1,cB1,fB1⟩:=B1.out
   obtain ⟨lB5,cB5,fB5⟩:=B5.out
   clear lB1 cB1 fB1 lB5 cB5 fB5
   obtain ⟨lB1,cB1,fB1⟩:=B1.out
   obtain ⟨lB5,cB5,fB5⟩:=B5.out
   obtain ⟨lBT,cBT,fBT⟩:=BT.out
   go_wp2_with fail
   go_loopw [3,12] (fun u i wr => ∃ q2:Nat,q2 <= al/\i = .int .i64 q2/\Own wr w.heap.size [g,wb.heap.size,w.heap.size] 127 5 u (nL+q2) (iW (L2 ++ (uxI j (y,q)).take q2))/\Below w.heap.size w wr/\Box wr w.heap.size #[.slice ap np cp,.int .i64 ar,.int .i64 ce,.slice (some ⟨bb,bo,none⟩) nb cb]/\Box wr wb.heap.size #[.slice api k cpi,.slice (some ⟨bcd,ocd,none⟩) cl cii,.int .i64 x.term.op,.int .i64 x.term.val,.slice ati x.term.to.length cti,.int .i64 x.term.n]/\Box wr g A) (fun _ i _=>al - (intOf i).toNat)
   case atStart=>exact ⟨0,aP _,rfl,by simp only [aR,cK];exact HO.out,HW.out,B1.out,B5.out,BT.out⟩
   obtain ⟨q2,hq2,rfl,hO,hW,hB1,hB5,hBT⟩:=hrel
   clear lB1 cB1 fB1 lB5 cB5 fB5 lBT cBT fBT
   obtain ⟨oa3,oc3,rfl⟩:=hO.form
   replace HO:=h! hO
   replace HW:=h! hW
   replace B1:=h! hB1
   replace B5:=h! hB5
   replace BT:=h! hBT
   clear hO hW hB1 hB5 hBT
   generalize wr=w11 at *
   obtain ⟨lB1,cB1,fB1⟩:=B1.out
   obtain ⟨lB5,cB5,fB5⟩:=B5.out
   obtain ⟨lBT,cBT,fBT⟩:=BT.out
   by_cases hlt2:q2 < al
   ·obtain ⟨rfl,hbv⟩:=HVA.out (by omega)
    have HVV:=h! (HVX.out q2 hlt2)
    have HAQ:=h! (HAX.out q2 (by have:=HSL.out;omega))
    have HTS:=h! (eP (uxI j (y,q)) q2 ⟨y.args.getD q2 0,sargs.getD q2 0,j,q,0⟩ (by
     rw [HUX.out,aU,(cT (z:=(y.args.getD q2 0,sargs.getD q2 0))).2 ⟨eX y.args q2 (by have:=HAL.out;omega),eX sargs q2 (by have:=HSL.out;omega)⟩]
     rfl))
    generalize y.args.getD q2 0=va at *
    generalize sargs.getD q2 0=ta at *
    go_upto_region 20 with (fail)
    refine wp_region_grow 18 (fun kz=>match kz with | 17=>.made w11.heap.size (fun b=>.slice (some ⟨b,0,none⟩) 1 1) #[.int .i64 va,.int .i64 ta,.int .i64 j,.int .i64 q,.int .i64 0] | _=>.plain) (by kernel_rfl) (by kernel_rfl) ?_ (fun ν => ?_)
    ·(intro k;(try dsimp only);split <;> first | exact True.intro | (intro u w1 w2 hu hb;exact hu.below hb))
    simp only [aK,aR,aM,aT]
    iterate 17 (refine Grow.val (v := ?_) rfl rfl (fun wg hbg hdg => ?_) ?_;rotate_left;(focus ((obtain ⟨lg0,cg0,fg0⟩:=B1.out.later hbg);(obtain ⟨lg1,cg1,fg1⟩:=B5.out.later hbg);(obtain ⟨lg2,cg2,fg2⟩:=BT.out.later hbg);(obtain ⟨m0,m1,m2,m3,r1,r2,r3,r4⟩:=HP.out.below (HW.out.trans (hbg.mono HW.out.size)) hbp);(rw [<-HAL.out] at m2;clear r1 r2 r3 r4);(have hvv:=((HW.out.trans (hbg.mono HW.out.size)).cell hbv).trans HVV.out);(have haq:=HAQ.out);clear hbg hdg;first | (go_simp;done) | (go_simp;with_reducible rfl)));simp only [Act.put,aA,aC,aD])
    refine Grow.made (T := ?_) rfl rfl (fun wg hbg hdg => ?_) ?_
    rotate_left
    focus ((obtain ⟨lg0,cg0,fg0⟩:=B1.out.later hbg);(obtain ⟨lg1,cg1,fg1⟩:=B5.out.later hbg);(obtain ⟨lg2,cg2,fg2⟩:=BT.out.later hbg);(obtain ⟨m0,m1,m2,m3,r1,r2,r3,r4⟩:=HP.out.below (HW.out.trans (hbg.mono HW.out.size)) hbp);(rw [<-HAL.out] at m2;clear r1 r2 r3 r4);(have hvv:=((HW.out.trans (hbg.mono HW.out.size)).cell hbv).trans HVV.out);(have haq:=HAQ.out);clear hbg hdg;first | (go_simp;done) | (go_simp;with_reducible rfl))
    simp only [Act.put,Known.val,aA,aC,aD]
    intro wg hb hf hap
    obtain ⟨bBN,hνBN,hBBN,hXBN⟩:=hf 17 (by omega)
    have nBNB1:bBN ≠ w.heap.size:=fun e=>by have:=lB1;omega
    have nB1BN:w.heap.size ≠ bBN:=fun e=>nBNB1 e.symm
    have nBNB5:bBN ≠ wb.heap.size:=fun e=>by have:=lB5;omega
    have nB5BN:wb.heap.size ≠ bBN:=fun e=>nBNB5 e.symm
    have nBNBT:bBN ≠ g:=fun e=>by have:=lBT;omega
    have nBTBN:g ≠ bBN:=fun e=>nBNBT e.symm
    simp only [hνBN]
    clear hνBN
    clear hap
    have gBN:=aJ HW.out.size hBBN
    clear hBBN
    clear lB1 cB1 fB1 lB5 cB5 fB5 lBT cBT fBT
    replace B1:=h! (B1.out.later hb)
    replace B5:=h! (B5.out.later hb)
    replace BT:=h! (BT.out.later hb)
    replace HO:=h! (HO.out.later hb)
    replace HW:=h! (HW.out.trans (hb.mono HW.out.size))
    clear hb
    have BN:=h! hXBN
    clear hXBN
    obtain ⟨lB1,cB1,fB1⟩:=B1.out
    obtain ⟨lB5,cB5,fB5⟩:=B5.out
    obtain ⟨lBT,cBT,fBT⟩:=BT.out
    obtain ⟨lBN,cBN,fBN⟩:=BN.out
    clear hf
    clear lB1 cB1 fB1 lB5 cB5 fB5 lBT cBT fBT lBN cBN fBN
    have lBN:=BN.out.lt
    have lB1:=B1.out.lt
    have lB5:=B5.out.lt
    have lBT:=BT.out.lt
    refine fZ rfl _ _ 124 127 rfl aBU rfl rfl HO.out (Row.of_box (n:=1) (size:=5) BN.out rfl (by omega)) (by simp [Value.oneCell']) (by unfold maxLen;omega) (by omega) (by have:=HW.out.size;omega) (by intro b hb;simp at hb ⊢;omega) ?_
    intro v2 w2 hO2 hBs2 hB2
    clear lBN
    clear lB1
    clear lB5
    clear lBT
    replace B1:=h! (hBs2 _ _ (by simp) B1.out)
    replace B5:=h! (hBs2 _ _ (by simp) B5.out)
    replace BT:=h! (hBs2 _ _ (by simp) BT.out)
    replace HO:=h! hO2
    replace HW:=h! (HW.out.trans hB2)
    clear hO2 hBs2 hB2 BN
    obtain ⟨lB1,cB1,fB1⟩:=B1.out
    obtain ⟨lB5,cB5,fB5⟩:=B5.out
    obtain ⟨lBT,cBT,fBT⟩:=BT.out
    go_wp2
    go_roundw
    case rel=>exact ⟨q2+1,hlt2,by go_num,by rw [HTS.out, <-List.append_assoc,kS];exact HO.out,HW.out,B1.out,B5.out,BT.out⟩
    simp [intOf];omega
   obtain rfl:q2=al:=by omega
   rw [aI (by rw [HXL.out];omega)] at HO
   go_wp2
   go_roundw
   case rel=>exact ⟨q+1,hltq,by go_num,by rw [HQ.out,aQ, <-HNL.out,HXL.out];exact HO.out.less (by simp),HW.out,B1.out,B5.out⟩
   simp [intOf];omega
  obtain rfl:q=cl:=by omega
  rw [aI (by rw [dU];have:=HCL.out;omega)] at HL2
  have HQ:Hid ((f.blocks.zipIdx.take (j+1)).flatMap uxB=L2 ++ uxT j x):=h! (by rw [HFL.out, <-HL.out,HL2.out,HL1.out];unfold uxB;simp [bV])
  have hsmp:nL+(uxT j x).length <= 2097152:=by
   have h1:=HSM2.out
   rw [HNL.out,HL2.out,aQ,HL1.out,aQ]
   omega
  have HXT:Hid (uxT j x=if x.term.op=2 then [⟨x.term.val,2,j,x.code.length,0⟩] else if x.term.op=3 then [⟨x.term.val,0,j,x.code.length,0⟩] else []):=h! rfl
  rw [<-HCL.out] at HXT
  cases h2:(x.term.op == 2)
  ·have H2:=h! h2
   cases h3:(x.term.op == 3)
   ·have HXT2:Hid (uxT j x=[]):=h! (by rw [HXT.out,if_neg (by simpa using h2),if_neg (by simpa using h3)])
    go_wp2
    go_roundw
    case rel=>exact ⟨j+1,hltb,by go_num,by rw [HQ.out,HXT2.out,cK, <-HNL.out];exact HO.out.less (by simp),HW.out,B1.out⟩
    simp [intOf];omega
   have HXT2:Hid (uxT j x=[⟨x.term.val,0,j,q,0⟩]):=h! (by rw [HXT.out,if_neg (by simpa using h2),if_pos (by simpa using h3)])
   rw [HXT2.out] at hsmp
   simp only [bB,cD,bH] at hsmp
   go_wp2_with (at_builtin;refine fZ rfl _ _ 124 127 rfl aBU rfl rfl (HO.out.alloc _) (Row.of_box (n:=1) (size:=5) (Box.new _ _ _) rfl (by omega)) (by simp [Value.oneCell']) (by unfold maxLen;omega) (by omega) (by simp;have:=HW.out.size;omega) (by intro b hb;simp at hb ⊢;omega) ?_;intro v2 w2 hO2 hBs2 hB2)
   clear lB1 cB1 fB1 lB5 cB5 fB5
   replace B1:=h! (hBs2 _ _ (by simp) (B1.out.alloc _))
   replace B5:=h! (hBs2 _ _ (by simp) (B5.out.alloc _))
   replace HO:=h! hO2
   replace HW:=h! ((HW.out.alloc (by have:=HW.out.size;omega) _).trans hB2)
   clear hO2 hBs2 hB2
   obtain ⟨lB1,cB1,fB1⟩:=B1.out
   obtain ⟨lB5,cB5,fB5⟩:=B5.out
   go_wp2
   go_roundw
   case rel=>exact ⟨j+1,hltb,by go_num,by rw [HQ.out,HXT2.out,kS,aQ, <-HNL.out];exact HO.out.less (by simp),HW.out,B1.out⟩
   simp [intOf];omega
  have HXT2:Hid (uxT j x=[⟨x.term.val,2,j,q,0⟩]):=h! (by rw [HXT.out,if_pos (by simpa using h2)])
  have H3:Hid ((x.term.op == 3)=false):=h! (by simp at h2 ⊢;omega)
  rw [HXT2.out] at hsmp
  simp only [bB,cD,bH] at hsmp
  go_upto_region 22 with (fail)
  clear h2
  have h3:=H3.out
  go_upto_region 23 with (at_builtin;refine fZ rfl _ _ 124 127 rfl aBU rfl rfl (HO.out.alloc _) (Row.of_box (n:=1) (size:=5) (Box.new _ _ _) rfl (by omega)) (by simp [Value.oneCell']) (by unfold maxLen;omega) (by omega) (by simp;have:=HW.out.size;omega) (by intro b hb;simp at hb ⊢;omega) ?_;intro v2 w2 hO2 hBs2 hB2)
  clear lB1 cB1 fB1 lB5 cB5 fB5
  replace B1:=h! (hBs2 _ _ (by simp) (B1.out.alloc _))
  replace B5:=h! (hBs2 _ _ (by simp) (B5.out.alloc _))
  replace HO:=h! hO2
  replace HW:=h! ((HW.out.alloc (by have:=HW.out.size;omega) _).trans hB2)
  clear hO2 hBs2 hB2
  obtain ⟨lB1,cB1,fB1⟩:=B1.out
  obtain ⟨lB5,cB5,fB5⟩:=B5.out
  go_wp2
  go_roundw
  case rel=>exact ⟨j+1,hltb,by go_num,by rw [HQ.out,HXT2.out,kS,aQ, <-HNL.out];exact HO.out.less (by simp),HW.out,B1.out⟩
  simp [intOf];omega
 obtain rfl:j=nb:=by omega
 rw [aI (by rw [dU];have:=HNB.out;omega)] at HL
 rw [<-HVF.out] at HL
 go_wp2
 go_ret
 exact ⟨_,rfl,by rw [<-HL.out];exact HO.out.row,HW.out⟩
end Go.Proofs.YtcmflfkpeodicaaGreat
