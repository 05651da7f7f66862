/- Part 55. -/
import Derived.Test.YtagabiidbbhhmaaGreatEC54
namespace Go.Proofs.YtagabiidbbhhmaaGreat
set_option linter.all false
open Go.RowKit Go.Shelf
private theorem fU.alloc {w0 W:World} (h:fU w0 W) (o:Obj):fU w0 (W.alloc o):=h.later ((Below.refl _ _).alloc (aA _) o)
set_option maxHeartbeats 25600000 in
set_option maxRecDepth 100000 in
theorem yF {w:World} {v sv:Value} {x:BlockD} {to:Int -> Int} (hv:BlockV w v x) (hp1:x.phis.length <= 100000) (hc1:x.code.length <= 100000) (hto:∀ v,In64 v -> In64 (to v)) (hT:ToOk sv to w) :
  Calls Tryz.prog 41 #[v,sv] w (rB (mapB to x) w):=by
 have HX:=h! hv
 have HSZ:=h! (And.intro hp1 hc1)
 have HTO:=h! hto
 have HT:=h! hT
 obtain ⟨⟨pv,uv,tv,rfl,hp,hc,ht⟩,ho64,hv64,hn64⟩:=hv
 obtain ⟨ap,cp,rfl⟩:=hp.form
 obtain ⟨ac,cc,rfl⟩:=hc.form
 obtain ⟨ta,tc,rfl⟩:=ht.form
 obtain ⟨nt,hnt⟩ : ∃ n,n=x.term.to.length:=⟨_,rfl⟩
 obtain ⟨np,hnp⟩ : ∃ n,n=x.phis.length:=⟨_,rfl⟩
 obtain ⟨nc,hnc⟩ : ∃ n,n=x.code.length:=⟨_,rfl⟩
 obtain ⟨op,hop⟩ : ∃ n,n=x.term.op:=⟨_,rfl⟩
 obtain ⟨val,hval⟩ : ∃ n,n=x.term.val:=⟨_,rfl⟩
 obtain ⟨tn,htn⟩ : ∃ n,n=x.term.n:=⟨_,rfl⟩
 have HTE:Hid (op=x.term.op/\val=x.term.val/\tn=x.term.n):=h! ⟨hop,hval,htn⟩
 have H64:Hid (In64 op/\In64 val/\In64 tn):=h! (by rw [hop,hval,htn];exact ⟨ho64,hv64,hn64⟩)
 rw [<-hop, <-hval, <-htn, <-hnt, <-hnp, <-hnc] at HX
 rw [<-hop, <-hval, <-htn, <-hnt, <-hnp, <-hnc]
 rw [<-hnp] at hp1
 rw [<-hnc] at hc1
 have HNT:=h! hnt
 have HNP:=h! hnp
 have HNC:=h! hnc
 clear hp hc ht hop hval htn hnt hnp hnc ho64 hv64 hn64 hto hT
 go_enter Tryz.func41,Tryz.ntmps41
 go_upto_region 1 with (fail)
 have hA_:=(Below.refl w.heap.size w).alloc (aA _) (.cells #[.slice ap np cp,.slice ac nc cc,.int .i64 op,.int .i64 val,.slice ta nt tc,.int .i64 tn] 63)
 have HW:=h! hA_
 clear hA_
 have B1:=h! (Box.new w #[.slice ap np cp,.slice ac nc cc,.int .i64 op,.int .i64 val,.slice ta nt tc,.int .i64 tn] 63)
 have hz0_:(w.alloc (.cells #[.slice ap np cp,.slice ac nc cc,.int .i64 op,.int .i64 val,.slice ta nt tc,.int .i64 tn] 63)).heap.size=w.heap.size+1:=World.size_alloc _ _
 generalize w.alloc (.cells #[.slice ap np cp,.slice ac nc cc,.int .i64 op,.int .i64 val,.slice ta nt tc,.int .i64 tn] 63)=wv0 at *
 have hA_:=(Below.refl wv0.heap.size wv0).alloc (aA _) (.cells #[.slice none 0 0,.slice none 0 0,.int .i64 0,.int .i64 0,.slice none 0 0,.int .i64 0] 63)
 replace B1:=h! (B1.out.later hA_)
 replace HW:=h! (HW.out.trans (hA_.mono HW.out.size))
 clear hA_
 have B2:=h! (Box.new wv0 #[.slice none 0 0,.slice none 0 0,.int .i64 0,.int .i64 0,.slice none 0 0,.int .i64 0] 63)
 rw [hz0_] at B2
 clear hz0_
 generalize wv0.alloc (.cells #[.slice none 0 0,.slice none 0 0,.int .i64 0,.int .i64 0,.slice none 0 0,.int .i64 0] 63)=wv at *
 obtain ⟨lB1,cB1,fB1⟩:=B1.out
 obtain ⟨lB2,cB2,fB2⟩:=B2.out
 go_wp2_with fail
 refine (nO (HX.out.below HW.out) HSZ.out.1 HSZ.out.2).mono ?_
 rintro e w1 ⟨pv,uv,tv,S,rfl,hOB,hFr,hb⟩
 obtain ⟨⟨v1,u1,t1,S1,S2,S3,e1,h1,h2,h3,h12,h13,h23,i1,i2,i3⟩,hlt⟩:=hOB
 injection e1 with e1 e2
 injection e2 with e2 e3
 subst e1 e2 e3
 obtain ⟨⟨tv',e4,h3⟩, -, -, -⟩:=h3
 injection e4 with e4 e5
 injection e5 with e5 e6
 injection e6 with e6 e7
 subst e6
 obtain ⟨ap2,cp2,rfl⟩:=(h1.reads (R0:=PhiR) fun _ _ _ h=>h.reads).form
 obtain ⟨ac2,cc2,rfl⟩:=(h2.reads (R0:=gW) fun _ _ _ h=>h.reads).form
 obtain ⟨ta2,tc2,rfl⟩:=h3.ints.form
 rw [<-HNP.out] at h1
 rw [<-HNC.out] at h2
 rw [<-HNT.out] at h3
 rw [<-HTE.out.1, <-HTE.out.2.1, <-HTE.out.2.2, <-HNP.out, <-HNC.out, <-HNT.out]
 have H1:Hid (Holds [w.heap.size,w.heap.size+1] (w.heap.size+1+1) w1 S1 (fun W=>fZ W S1 (.slice ap2 np cp2) x.phis)):=h! (((jY OPhi.nice h1 (fun k hk=>hFr k (i1 k hk))).from (base':=w.heap.size+1+1) (by omega)).low (by intro z hz;simp at hz;omega))
 have H2:Hid (Holds [w.heap.size,w.heap.size+1] (w.heap.size+1+1) w1 S2 (fun W=>gV W S2 (.slice ac2 nc cc2) x.code)):=h! (((jY OInstr.nice h2 (fun k hk=>hFr k (i2 k hk))).from (base':=w.heap.size+1+1) (by omega)).low (by intro z hz;simp at hz;omega))
 have H3:Hid (Holds [w.heap.size,w.heap.size+1] (w.heap.size+1+1) w1 S3 (fun W=>eP W S3 (.slice ta2 nt tc2) x.term.to)):=h! (((fK h3 (fun k hk=>hFr k (i3 k hk))).from (base':=w.heap.size+1+1) (by omega)).low (by intro z hz;simp at hz;omega))
 have HOF:Hid (S1.off S2/\S1.off S3/\S2.off S3):=h! ⟨h12,h13,h23⟩
 clear h1 h2 h3 h12 h13 h23 i1 i2 i3 hlt hFr e4 e5 e7
 clear lB1 cB1 fB1 lB2 cB2 fB2
 replace B1:=h! (B1.out.later hb)
 replace B2:=h! (B2.out.later hb)
 replace HW:=h! (HW.out.trans (hb.mono HW.out.size))
 clear hb
 obtain ⟨lB1,cB1,fB1⟩:=B1.out
 obtain ⟨lB2,cB2,fB2⟩:=B2.out
 have HBB:=h! lB2
 go_upto_region 2 with (fail)
 replace H1:=h! (H1.out.more (aA _))
 replace H2:=h! (H2.out.more (aA _))
 replace H3:=h! (H3.out.more (aA _))
 have nB5B1:w1.heap.size ≠ w.heap.size:=fun e=>by have:=lB1;omega
 have nB1B5:w.heap.size ≠ w1.heap.size:=fun e=>nB5B1 e.symm
 have nB5B2:w1.heap.size ≠ w.heap.size+1:=fun e=>by have:=lB2;omega
 have nB2B5:w.heap.size+1 ≠ w1.heap.size:=fun e=>nB5B2 e.symm
 clear lB1 cB1 fB1 lB2 cB2 fB2
 have hA_:=(Below.refl w1.heap.size w1).alloc (aA _) (.cells #[.slice ap2 np cp2,.slice ac2 nc cc2,.int .i64 op,.int .i64 val,.slice ta2 nt tc2,.int .i64 tn] 63)
 replace B1:=h! (B1.out.later hA_)
 replace B2:=h! (B2.out.later hA_)
 replace H1:=h! (H1.out.later hA_)
 replace H2:=h! (H2.out.later hA_)
 replace H3:=h! (H3.out.later hA_)
 replace HW:=h! (HW.out.trans (hA_.mono HW.out.size))
 clear hA_
 have B5:=h! (Box.new w1 #[.slice ap2 np cp2,.slice ac2 nc cc2,.int .i64 op,.int .i64 val,.slice ta2 nt tc2,.int .i64 tn] 63)
 generalize w1.alloc (.cells #[.slice ap2 np cp2,.slice ac2 nc cc2,.int .i64 op,.int .i64 val,.slice ta2 nt tc2,.int .i64 tn] 63)=w4 at *
 obtain ⟨lB1,cB1,fB1⟩:=B1.out
 obtain ⟨lB2,cB2,fB2⟩:=B2.out
 obtain ⟨lB5,cB5,fB5⟩:=B5.out
 generalize w1.heap.size=b5 at *
 clear lB1 cB1 fB1 B1
 clear lB2 cB2 fB2 lB5 cB5 fB5
 go_wp2_with fail
 go_loopw [6] (fun iv wr => ∃ i:Nat,i <= np/\iv = .int .i64 i/\fZ wr S1 (.slice ap2 np cp2) (fV (mapP to) x.phis i)/\Off S1 w4 wr) (fun iv _=>np - (intOf iv).toNat)
 case atStart=>exact ⟨0,aI _,rfl,by rw [fI];exact H1.out.now,Off.refl _ _⟩
 case round =>
  obtain ⟨i,hi,rfl,hol,ho⟩:=hrel
  have HO1:=h! ho
  have HOL:=h! hol
  have B5R:=h! (B5.out.off ho (fun hk=>H1.out.free _ hk (by simp)))
  clear hol ho
  by_cases hlt:i < np
  ·obtain ⟨p,hp⟩ : ∃ p,x.phis[i]? = some p:=⟨_,aC (by rw [<-HNP.out];exact hlt)⟩
   obtain ⟨g1,cap1,af,av,cf,cv,Sv,hv,hgl1,hSg,hPC,hfr1,hOv,hSv,hnv,hclose⟩:=fZ.vals HOL.out (j:=i) (p:=p) (by rw [fW];exact hp)
   rw [eS, <-HNP.out] at hv
   injection hv with e1 e2 e3
   subst e1
   subst e3
   have HP:=h! hp
   have HOV:=h! hOv
   have HSV:=h! hSv
   have HCL:=h! hclose
   have HM3:=h! hPC.c3
   have HNG:=h! hnv
   have HGL:=h! hgl1
   have hvb:p.vals.length <= 17592186044416:=hOv.1.big
   obtain ⟨nv,hnv'⟩ : ∃ nv,nv=p.vals.length:=⟨_,rfl⟩
   rw [<-hnv'] at HM3 HOV HCL hvb
   have HNV:=h! hnv'
   obtain ⟨W5,hW5⟩ : ∃ W5,W5=wr:=⟨_,rfl⟩
   subst hW5
   clear hp hOv hSv hclose hPC hSg hfr1 hnv hnv' e2 hgl1
   obtain ⟨l5,k5,f5⟩:=B5R.out
   go_wp2_with fail
   clear l5 k5 f5
   go_loopw [7] (fun iv wr => ∃ q:Nat,q <= nv/\iv = .int .i64 q/\eP wr Sv (.slice av nv cv) (fV to p.vals q)/\Off Sv W5 wr) (fun iv _=>nv - (intOf iv).toNat)
   case atStart=>exact ⟨0,aI _,rfl,by rw [fI];exact HOV.out,Off.refl _ _⟩
   obtain ⟨q,hq,rfl,hoi,ho⟩:=hrel
   have HOI:=h! hoi
   have HOI2:=h! ho
   have B5Q:=h! (B5R.out.off ho (fun hk=>H1.out.free _ (HSV.out _ hk) (by simp)))
   have m3:=(ho.cell (b:=g1) (o:=i * 4+3) HGL.out HNG.out).trans HM3.out
   have hglw:g1 < wr.heap.size:=bC HGL.out ho.size
   clear hoi ho
   by_cases hqt:q < nv
   ·obtain ⟨v,hv⟩ : ∃ v,p.vals[q]? = some v:=⟨_,aC (by rw [<-HNV.out];exact hqt)⟩
    obtain ⟨gv,capv,hve,hSgv,hglv,hcell,hfrv, -⟩:=HOI.out.addr (i:=q) (x:=v) (by rw [fW];exact hv)
    rw [eS, <-HNV.out] at hve
    injection hve with e1 e2 e3
    subst e1
    subst e3
    have hv64:=HOV.out.2 v (aG hv)
    have HVQ:=h! hv
    have HV6:=h! hv64
    have HSG:=h! hSgv
    have HFRV:=h! hfrv
    have HCEL:=h! hcell
    have HM3W:=h! m3
    have HRR:Hid (fU wr wr):=h! (Below.refl _ _)
    have HWR:Hid (Below w.heap.size w wr):=h! (HW.out.trans ((HO1.out.trans (HOI2.out.mono fun z _ hz=>HSV.out z hz)).below (base:=w.heap.size) HW.out.size (fun k _ hk=>by have:=H1.out.base k hk;omega)))
    clear hv hSgv hfrv e2 hv64 hcell
    obtain ⟨lB5Q,cB5Q,fB5Q⟩:=B5Q.out
    go_upto_region 8 with (fail)
    clear m3
    refine wp_region_grow 19 (fun kz=>match kz with | 17=>.const (.int .i64 (to v)) | _=>.plain) (by kernel_rfl) (by kernel_rfl) ?_ (fun ν => ?_)
    ·(intro k;(try dsimp only);split <;> first | exact True.intro | (intro u w1 w2 hu hb;exact hu.below hb))
    simp only [aO,aV,aS,aX]
    iterate 17 (refine Grow.val (v := ?_) rfl rfl (fun wg hbg hdg => ?_) ?_;rotate_left;(focus ((obtain ⟨lg0,cg0,fg0⟩:=B5Q.out.later hbg);(have xm3:=(hbg.cell (p:=⟨g1,i * 4+3,none⟩) hglw).trans HM3W.out;have xcl:=(hbg.cell (p:=⟨gv,q,none⟩) hglv).trans HCEL.out);clear hbg hdg;first | (go_simp;done) | (go_simp;with_reducible rfl)));simp only [Act.put,aB,aE,aF])
    refine Grow.call (f := ?_) (args := ?_) rfl (fun wg => ?_) (fun wg hbg hdg => ?_) ?_
    rotate_left 2
    focus (first | (go_simp;done) | (go_simp;refine And.intro ?_ ?_ <;> with_reducible rfl) | (go_simp;with_reducible rfl))
    focus exact Calls.mono (HT.out wg v HV6.out (HWR.out.trans (hbg.mono HWR.out.size))) (fun e w2 ⟨he,hb2⟩=>⟨_,he,rfl,hb2⟩)
    simp only [Act.put,Known.val,aB,aE,aF]
    refine Grow.val (v := ?_) rfl rfl (fun wg hbg hdg => ?_) ?_
    rotate_left
    focus ((obtain ⟨lg0,cg0,fg0⟩:=B5Q.out.later hbg);(have xm3:=(hbg.cell (p:=⟨g1,i * 4+3,none⟩) hglw).trans HM3W.out;have xcl:=(hbg.cell (p:=⟨gv,q,none⟩) hglv).trans HCEL.out);clear hbg hdg;first | (go_simp;done) | (go_simp;with_reducible rfl))
    simp only [Act.put,aB,aE,aF]
    intro wg hb hf hap
    clear hap
    clear lB5Q cB5Q fB5Q
    replace B5Q:=h! (B5Q.out.later hb)
    replace HRR:=h! (HRR.out.later hb)
    obtain ⟨lB5Q,cB5Q,fB5Q⟩:=B5Q.out
    clear hf
    have hcl2:=(HRR.out.cell (p:=⟨gv,q,none⟩) hglv).trans HCEL.out
    have hfz2:∀ o,wg.frozen? ⟨gv,o,none⟩=false:=fun o=>(HRR.out.frozen (p:=⟨gv,o,none⟩) hglv).trans (HFRV.out o)
    have HNX:Hid (eP (wg.setCell ⟨gv,q,none⟩ (.int .i64 (to v))) Sv (.slice (some ⟨gv,0,none⟩) nv cv) (fV to p.vals (q+1))):=h! (by
     have h9:=eP.set (HOI.out.off (Off.of_below HRR.out Foot.none) (fun _ _ h=>h)) (g:=gv) (cap:=cv) (by rw [eS, <-HNV.out]) (i:=q) (by rw [eS, <-HNV.out];exact hqt) (HTO.out v HV6.out)
     rw [fX HVQ.out] at h9
     exact h9)
    have HNO:Hid (Off Sv W5 (wg.setCell ⟨gv,q,none⟩ (.int .i64 (to v)))):=h! ((HOI2.out.trans (Off.of_below HRR.out _)).trans ((Off.set wg ⟨gv,q,none⟩ _).mono fun z _ hz=>by have h9:z=gv:=hz;rw [h9];exact HSG.out))
    clear lB5Q cB5Q fB5Q
    go_wp2
    clear hcl2 hfz2
    go_roundw
    case rel=>exact ⟨q+1,hqt,by go_num,HNX.out,HNO.out⟩
    simp [intOf];omega
   obtain rfl:nv=q:=by omega
   have HNX:Hid (fZ wr S1 (.slice (some ⟨g1,0,none⟩) np cp2) (fV (mapP to) x.phis (i+1))):=h! (by
    have h9:=HOI.out
    rw [HNV.out,gD, <-HNV.out] at h9
    have h8:=HCL.out wr _ HOI2.out h9
    have h7:=fX (g:=mapP to) HP.out
    rw [<-h7]
    exact h8)
   have HNO:Hid (Off S1 w4 wr):=h! (HO1.out.trans (HOI2.out.mono fun z _ hz=>HSV.out z hz))
   obtain ⟨l5,k5,f5⟩:=B5Q.out
   go_wp2
   clear l5 k5 f5 m3
   go_roundw
   case rel=>exact ⟨i+1,hlt,by go_num,HNX.out,HNO.out⟩
   simp [intOf];omega
  obtain rfl:np=i:=by omega
  have HPE:Hid (fZ wr S1 (.slice ap2 np cp2) (x.phis.map (mapP to))):=h! (by have h9:=HOL.out;rw [HNP.out,gD, <-HNP.out] at h9;exact h9)
  obtain ⟨W2,hW5⟩ : ∃ W5,W5=wr:=⟨_,rfl⟩
  subst hW5
  clear HOL hlt hi
  have HOA:=HO1
  have HCS:Hid (gV W2 S2 (.slice ac2 nc cc2) x.code):=h! (H2.out.now.off OInstr.nice HOA.out (fun z a b=>HOF.out.1 z b a))
  have HW2:Hid (Below w.heap.size w W2):=h! (HW.out.trans (HOA.out.below (base:=w.heap.size) HW.out.size (fun k _ hk=>by have:=H1.out.base k hk;omega)))
  obtain ⟨l5,k5,f5⟩:=B5R.out
  have B5W:=B5R
  clear HO1 B5R
  go_wp2_with fail
  clear l5 k5 f5
  go_loopw [8] (fun iv wr => ∃ i:Nat,i <= nc/\iv = .int .i64 i/\gV wr S2 (.slice ac2 nc cc2) (fV (mapX to) x.code i)/\Off S2 W2 wr) (fun iv _=>nc - (intOf iv).toNat)
  case atStart=>exact ⟨0,aI _,rfl,by rw [fI];exact HCS.out,Off.refl _ _⟩
  obtain ⟨i,hi,rfl,hol,ho⟩:=hrel
  have HO1:=h! ho
  have HOL:=h! hol
  have B5R:=h! (B5W.out.off ho (fun hk=>H2.out.free _ hk (by simp)))
  clear hol ho
  by_cases hlt:i < nc
  ·obtain ⟨p,hp⟩ : ∃ p,x.code[i]? = some p:=⟨_,aC (by rw [<-HNC.out];exact hlt)⟩
   obtain ⟨g1,cap1,aa,ca,Sv,hv,hgl1,hSg,hPC,hfr1,hOv,hSv,hnv,hclose⟩:=gV.open HOL.out (j:=i) (y:=p) (by rw [fW];exact hp)
   rw [eS, <-HNC.out] at hv
   injection hv with e1 e2 e3
   subst e1
   subst e3
   have HP:=h! hp
   have HOV:=h! hOv
   have HSV:=h! hSv
   have HCL:=h! hclose
   have HM3:=h! hPC.c2
   have HNG:=h! hnv
   have HGL:=h! hgl1
   have hvb:p.args.length <= 17592186044416:=hOv.1.big
   obtain ⟨nv,hnv'⟩ : ∃ nv,nv=p.args.length:=⟨_,rfl⟩
   rw [<-hnv'] at HM3 HOV HCL hvb
   have HNV:=h! hnv'
   obtain ⟨W5,hW5⟩ : ∃ W5,W5=wr:=⟨_,rfl⟩
   subst hW5
   clear hp hOv hSv hclose hPC hSg hfr1 hnv hnv' e2 hgl1
   obtain ⟨l5,k5,f5⟩:=B5R.out
   go_wp2_with fail
   clear l5 k5 f5
   go_loopw [9] (fun iv wr => ∃ q:Nat,q <= nv/\iv = .int .i64 q/\eP wr Sv (.slice aa nv ca) (fV to p.args q)/\Off Sv W5 wr) (fun iv _=>nv - (intOf iv).toNat)
   case atStart=>exact ⟨0,aI _,rfl,by rw [fI];exact HOV.out,Off.refl _ _⟩
   obtain ⟨q,hq,rfl,hoi,ho⟩:=hrel
   have HOI:=h! hoi
   have HOI2:=h! ho
   have B5Q:=h! (B5R.out.off ho (fun hk=>H2.out.free _ (HSV.out _ hk) (by simp)))
   have m3:=(ho.cell (b:=g1) (o:=i * 4+2) HGL.out HNG.out).trans HM3.out
   have hglw:g1 < wr.heap.size:=bC HGL.out ho.size
   clear hoi ho
   by_cases hqt:q < nv
   ·obtain ⟨v,hv⟩ : ∃ v,p.args[q]? = some v:=⟨_,aC (by rw [<-HNV.out];exact hqt)⟩
    obtain ⟨gv,capv,hve,hSgv,hglv,hcell,hfrv, -⟩:=HOI.out.addr (i:=q) (x:=v) (by rw [fW];exact hv)
    rw [eS, <-HNV.out] at hve
    injection hve with e1 e2 e3
    subst e1
    subst e3
    have hv64:=HOV.out.2 v (aG hv)
    have HVQ:=h! hv
    have HV6:=h! hv64
    have HSG:=h! hSgv
    have HFRV:=h! hfrv
    have HCEL:=h! hcell
    have HM3W:=h! m3
    have HRR:Hid (fU wr wr):=h! (Below.refl _ _)
    have HWR:Hid (Below w.heap.size w wr):=h! (HW2.out.trans ((HO1.out.trans (HOI2.out.mono fun z _ hz=>HSV.out z hz)).below (base:=w.heap.size) HW2.out.size (fun k _ hk=>by have:=H2.out.base k hk;omega)))
    clear hv hSgv hfrv e2 hv64 hcell
    obtain ⟨lB5Q,cB5Q,fB5Q⟩:=B5Q.out
    go_upto_region 15 with (fail)
    clear m3
    refine wp_region_grow 19 (fun kz=>match kz with | 17=>.const (.int .i64 (to v)) | _=>.plain) (by kernel_rfl) (by kernel_rfl) ?_ (fun ν => ?_)
    ·(intro k;(try dsimp only);split <;> first | exact True.intro | (intro u w1 w2 hu hb;exact hu.below hb))
    simp only [aO,aV,aS,aX]
    iterate 17 (refine Grow.val (v := ?_) rfl rfl (fun wg hbg hdg => ?_) ?_;rotate_left;(focus ((obtain ⟨lg0,cg0,fg0⟩:=B5Q.out.later hbg);(have xm3:=(hbg.cell (p:=⟨g1,i * 4+2,none⟩) hglw).trans HM3W.out;have xcl:=(hbg.cell (p:=⟨gv,q,none⟩) hglv).trans HCEL.out);clear hbg hdg;first | (go_simp;done) | (go_simp;with_reducible rfl)));simp only [Act.put,aB,aE,aF])
    refine Grow.call (f := ?_) (args := ?_) rfl (fun wg => ?_) (fun wg hbg hdg => ?_) ?_
    rotate_left 2
    focus (first | (go_simp;done) | (go_simp;refine And.intro ?_ ?_ <;> with_reducible rfl) | (go_simp;with_reducible rfl))
    focus exact Calls.mono (HT.out wg v HV6.out (HWR.out.trans (hbg.mono HWR.out.size))) (fun e w2 ⟨he,hb2⟩=>⟨_,he,rfl,hb2⟩)
    simp only [Act.put,Known.val,aB,aE,aF]
    refine Grow.val (v := ?_) rfl rfl (fun wg hbg hdg => ?_) ?_
    rotate_left
    focus ((obtain ⟨lg0,cg0,fg0⟩:=B5Q.out.later hbg);(have xm3:=(hbg.cell (p:=⟨g1,i * 4+2,none⟩) hglw).trans HM3W.out;have xcl:=(hbg.cell (p:=⟨gv,q,none⟩) hglv).trans HCEL.out);clear hbg hdg;first | (go_simp;done) | (go_simp;with_reducible rfl))
    simp only [Act.put,aB,aE,aF]
    intro wg hb hf hap
    clear hap
    clear lB5Q cB5Q fB5Q
    replace B5Q:=h! (B5Q.out.later hb)
    replace HRR:=h! (HRR.out.later hb)
    obtain ⟨lB5Q,cB5Q,fB5Q⟩:=B5Q.out
    clear hf
    have hcl2:=(HRR.out.cell (p:=⟨gv,q,none⟩) hglv).trans HCEL.out
    have hfz2:∀ o,wg.frozen? ⟨gv,o,none⟩=false:=fun o=>(HRR.out.frozen (p:=⟨gv,o,none⟩) hglv).trans (HFRV.out o)
    have HNX:Hid (eP (wg.setCell ⟨gv,q,none⟩ (.int .i64 (to v))) Sv (.slice (some ⟨gv,0,none⟩) nv ca) (fV to p.args (q+1))):=h! (by
     have h9:=eP.set (HOI.out.off (Off.of_below HRR.out Foot.none) (fun _ _ h=>h)) (g:=gv) (cap:=ca) (by rw [eS, <-HNV.out]) (i:=q) (by rw [eS, <-HNV.out];exact hqt) (HTO.out v HV6.out)
     rw [fX HVQ.out] at h9
     exact h9)
    have HNO:Hid (Off Sv W5 (wg.setCell ⟨gv,q,none⟩ (.int .i64 (to v)))):=h! ((HOI2.out.trans (Off.of_below HRR.out _)).trans ((Off.set wg ⟨gv,q,none⟩ _).mono fun z _ hz=>by have h9:z=gv:=hz;rw [h9];exact HSG.out))
    clear lB5Q cB5Q fB5Q
    go_wp2
    clear hcl2 hfz2
    go_roundw
    case rel=>exact ⟨q+1,hqt,by go_num,HNX.out,HNO.out⟩
    simp [intOf];omega
   obtain rfl:nv=q:=by omega
   have HNX:Hid (gV wr S2 (.slice (some ⟨g1,0,none⟩) nc cc2) (fV (mapX to) x.code (i+1))):=h! (by
    have h9:=HOI.out
    rw [HNV.out,gD, <-HNV.out] at h9
    have h8:=HCL.out wr _ HOI2.out h9
    have h7:=fX (g:=mapX to) HP.out
    rw [<-h7]
    exact h8)
   have HNO:Hid (Off S2 W2 wr):=h! (HO1.out.trans (HOI2.out.mono fun z _ hz=>HSV.out z hz))
   obtain ⟨l5,k5,f5⟩:=B5Q.out
   go_wp2
   clear l5 k5 f5 m3
   go_roundw
   case rel=>exact ⟨i+1,hlt,by go_num,HNX.out,HNO.out⟩
   simp [intOf];omega
  obtain rfl:nc=i:=by omega
  have HCE:Hid (gV wr S2 (.slice ac2 nc cc2) (x.code.map (mapX to))):=h! (by have h9:=HOL.out;rw [HNC.out,gD, <-HNC.out] at h9;exact h9)
  obtain ⟨W3,hW5⟩ : ∃ W5,W5=wr:=⟨_,rfl⟩
  subst hW5
  clear HOL hlt hi
  have HPF:Hid (Holds [b5,w.heap.size,w.heap.size+1] (w.heap.size+1+1) W3 S1 (fun W=>fZ W S1 (.slice ap2 np cp2) (x.phis.map (mapP to)))):=h! ⟨HPE.out.off OPhi.nice HO1.out HOF.out.1,fun _ _ h hk=>h.keep OPhi.nice hk,fun k hk=>bC (HPE.out.lt k hk) HO1.out.size,H1.out.base,H1.out.free⟩
  have HCF:Hid (Holds [b5,w.heap.size,w.heap.size+1] (w.heap.size+1+1) W3 S2 (fun W=>gV W S2 (.slice ac2 nc cc2) (x.code.map (mapX to)))):=h! ⟨HCE.out,fun _ _ h hk=>h.keep OInstr.nice hk,HCE.out.lt,H2.out.base,H2.out.free⟩
  have HTF:Hid (Holds [b5,w.heap.size,w.heap.size+1] (w.heap.size+1+1) W3 S3 (fun W=>eP W S3 (.slice ta2 nt tc2) x.term.to)):=h! ((H3.out.off HOA.out (fun z a b=>HOF.out.2.1 z b a)).off HO1.out (fun z a b=>HOF.out.2.2 z b a))
  have B2F:=h! ((B2.out.off HOA.out (fun hk=>H1.out.free _ hk (by simp))).off HO1.out (fun hk=>H2.out.free _ hk (by simp)))
  have HWF:Hid (Below w.heap.size w W3):=h! (HW2.out.trans (HO1.out.below (base:=w.heap.size) HW2.out.size (fun k _ hk=>by have:=H2.out.base k hk;omega)))
  replace HW:=HWF
  clear HPE HCE HO1 HOA H1 H2 H3 B2 HW2 HWF B5 B5W HCS
  have hbb:=HBB.out
  obtain ⟨lB5R,cB5R,fB5R⟩:=B5R.out
  obtain ⟨lB2F,cB2F,fB2F⟩:=B2F.out
  by_cases ho2:op=2
  ·have hq:(op == 2)=true:=by simpa using ho2
   have HOP:Hid (x.term.op=2 \/ x.term.op=3):=h! (.inl (by rw [<-HTE.out.1];exact ho2))
   clear ho2
   have HVV:Hid (In64 (to val)):=h! (HTO.out _ H64.out.2.1)
   have HM:Hid (mapB to x=⟨x.phis.map (mapP to),x.code.map (mapX to), { x.term with val:=to val }⟩):=h! (by unfold mapB mapT;rw [if_pos HOP.out,HTE.out.2.1])
   go_wp2_with fail
   refine (HT.out W3 val H64.out.2.1 HW.out).mono ?_
   rintro e w9 ⟨rfl,hb⟩
   clear lB5R cB5R fB5R lB2F cB2F fB2F
   replace B5R:=h! (B5R.out.later hb)
   replace B2F:=h! (B2F.out.later hb)
   replace HPF:=h! (HPF.out.later hb)
   replace HCF:=h! (HCF.out.later hb)
   replace HTF:=h! (HTF.out.later hb)
   replace HW:=h! (HW.out.trans (hb.mono HW.out.size))
   clear hb
   obtain ⟨lB5R,cB5R,fB5R⟩:=B5R.out
   obtain ⟨lB2F,cB2F,fB2F⟩:=B2F.out
   go_upto_region 18 with (fail)
   clear lB5R cB5R fB5R lB2F cB2F fB2F
   have hO_:=(Only.set w9 (b5) 3 (.int .i64 (to val)))
   replace B2F:=h! (B2F.out.only hO_ (by first | assumption | (simp;done) | omega))
   replace HPF:=h! (HPF.out.other (p:=⟨b5,3,none⟩) (.int .i64 (to val)) (by simp))
   replace HCF:=h! (HCF.out.other (p:=⟨b5,3,none⟩) (.int .i64 (to val)) (by simp))
   replace HTF:=h! (HTF.out.other (p:=⟨b5,3,none⟩) (.int .i64 (to val)) (by simp))
   replace HW:=h! (hO_.2.2 HW.out (by first | assumption | omega | (have:=HW.out.size;omega) | (simp;done) | (simp;omega)))
   replace B5R:=h! (Box.to (A':=#[.slice ap2 np cp2,.slice ac2 nc cc2,.int .i64 op,(.int .i64 (to val)),.slice ta2 nt tc2,.int .i64 tn]) (B5R.out.set 3 (.int .i64 (to val))) (by first | rfl | simp))
   clear hO_
   generalize (w9.setCell ⟨b5,3,none⟩ (.int .i64 (to val)))=wa at *
   obtain ⟨lB5R,cB5R,fB5R⟩:=B5R.out
   obtain ⟨lB2F,cB2F,fB2F⟩:=B2F.out
   go_wp2
   clear lB5R cB5R fB5R lB2F cB2F fB2F
   have hO_:=((((((Only.set wa (w.heap.size+1) 0 (.slice ap2 np cp2)).put 1 (.slice ac2 nc cc2)).put 2 (.int .i64 op)).put 3 (.int .i64 (to val))).put 4 (.slice ta2 nt tc2)).put 5 (.int .i64 tn))
   replace B5R:=h! (B5R.out.only hO_ (by first | assumption | (simp;done) | omega))
   replace HPF:=h! ((((((HPF.out.other (p:=⟨w.heap.size+1,0,none⟩) (.slice ap2 np cp2) (by simp)).other (p:=⟨w.heap.size+1,1,none⟩) (.slice ac2 nc cc2) (by simp)).other (p:=⟨w.heap.size+1,2,none⟩) (.int .i64 op) (by simp)).other (p:=⟨w.heap.size+1,3,none⟩) (.int .i64 (to val)) (by simp)).other (p:=⟨w.heap.size+1,4,none⟩) (.slice ta2 nt tc2) (by simp)).other (p:=⟨w.heap.size+1,5,none⟩) (.int .i64 tn) (by simp))
   replace HCF:=h! ((((((HCF.out.other (p:=⟨w.heap.size+1,0,none⟩) (.slice ap2 np cp2) (by simp)).other (p:=⟨w.heap.size+1,1,none⟩) (.slice ac2 nc cc2) (by simp)).other (p:=⟨w.heap.size+1,2,none⟩) (.int .i64 op) (by simp)).other (p:=⟨w.heap.size+1,3,none⟩) (.int .i64 (to val)) (by simp)).other (p:=⟨w.heap.size+1,4,none⟩) (.slice ta2 nt tc2) (by simp)).other (p:=⟨w.heap.size+1,5,none⟩) (.int .i64 tn) (by simp))
   replace HTF:=h! ((((((HTF.out.other (p:=⟨w.heap.size+1,0,none⟩) (.slice ap2 np cp2) (by simp)).other (p:=⟨w.heap.size+1,1,none⟩) (.slice ac2 nc cc2) (by simp)).other (p:=⟨w.heap.size+1,2,none⟩) (.int .i64 op) (by simp)).other (p:=⟨w.heap.size+1,3,none⟩) (.int .i64 (to val)) (by simp)).other (p:=⟨w.heap.size+1,4,none⟩) (.slice ta2 nt tc2) (by simp)).other (p:=⟨w.heap.size+1,5,none⟩) (.int .i64 tn) (by simp))
   replace HW:=h! (hO_.2.2 HW.out (by first | assumption | omega | (have:=HW.out.size;omega) | (simp;done) | (simp;omega)))
   replace B2F:=h! (Box.to (A':=#[(.slice ap2 np cp2),(.slice ac2 nc cc2),(.int .i64 op),(.int .i64 (to val)),(.slice ta2 nt tc2),(.int .i64 tn)]) ((((((B2F.out.set 0 (.slice ap2 np cp2)).set 1 (.slice ac2 nc cc2)).set 2 (.int .i64 op)).set 3 (.int .i64 (to val))).set 4 (.slice ta2 nt tc2)).set 5 (.int .i64 tn)) (by first | rfl | simp))
   clear hO_
   generalize ((((((wa.setCell ⟨w.heap.size+1,0,none⟩ (.slice ap2 np cp2)).setCell ⟨w.heap.size+1,1,none⟩ (.slice ac2 nc cc2)).setCell ⟨w.heap.size+1,2,none⟩ (.int .i64 op)).setCell ⟨w.heap.size+1,3,none⟩ (.int .i64 (to val))).setCell ⟨w.heap.size+1,4,none⟩ (.slice ta2 nt tc2)).setCell ⟨w.heap.size+1,5,none⟩ (.int .i64 tn))=wz at *
   obtain ⟨lB5R,cB5R,fB5R⟩:=B5R.out
   obtain ⟨lB2F,cB2F,fB2F⟩:=B2F.out
   refine bodyPost_ret (v:=.agg #[.slice ap2 np cp2,.slice ac2 nc cc2,.int .i64 op,.int .i64 (to val),.slice ta2 nt tc2,.int .i64 tn]) (by simp [results,Tryz.results41,go_sem, *]) rfl ⟨.slice ap2 np cp2,.slice ac2 nc cc2,.slice ta2 nt tc2,fun k=>S1 k \/ S2 k \/ S3 k,by rw [HM.out,HTE.out.1,HTE.out.2.2], ?_,fun k hk => ?_,HW.out⟩
   ·rw [HM.out]
    exact ⟨⟨_,_,_,S1,S2,S3,rfl,HPF.out.now,HCF.out.now,⟨⟨_,rfl,HTF.out.now⟩,by rw [<-HTE.out.1];exact H64.out.1,HVV.out,by rw [<-HTE.out.2.2];exact H64.out.2.2⟩,HOF.out.1,HOF.out.2.1,HOF.out.2.2,fun _ h=>.inl h,fun _ h=>.inr (.inl h),fun _ h=>.inr (.inr h)⟩,fun k hk=>hk.elim (HPF.out.lt k) (fun h=>h.elim (HCF.out.lt k) (HTF.out.lt k))⟩
   have:=hk.elim (HPF.out.base k) (fun h=>h.elim (HCF.out.base k) (HTF.out.base k));omega
  have hq:(op == 2)=false:=by simpa using ho2
  by_cases ho3:op=3
  ·have hq3:(op == 3)=true:=by simpa using ho3
   have HOP:Hid (x.term.op=2 \/ x.term.op=3):=h! (.inr (by rw [<-HTE.out.1];exact ho3))
   clear ho2 ho3
   have HVV:Hid (In64 (to val)):=h! (HTO.out _ H64.out.2.1)
   have HM:Hid (mapB to x=⟨x.phis.map (mapP to),x.code.map (mapX to), { x.term with val:=to val }⟩):=h! (by unfold mapB mapT;rw [if_pos HOP.out,HTE.out.2.1])
   go_wp2_with fail
   refine (HT.out W3 val H64.out.2.1 HW.out).mono ?_
   rintro e w9 ⟨rfl,hb⟩
   clear lB5R cB5R fB5R lB2F cB2F fB2F
   replace B5R:=h! (B5R.out.later hb)
   replace B2F:=h! (B2F.out.later hb)
   replace HPF:=h! (HPF.out.later hb)
   replace HCF:=h! (HCF.out.later hb)
   replace HTF:=h! (HTF.out.later hb)
   replace HW:=h! (HW.out.trans (hb.mono HW.out.size))
   clear hb
   obtain ⟨lB5R,cB5R,fB5R⟩:=B5R.out
   obtain ⟨lB2F,cB2F,fB2F⟩:=B2F.out
   go_upto_region 18 with (fail)
   clear lB5R cB5R fB5R lB2F cB2F fB2F
   have hO_:=(Only.set w9 (b5) 3 (.int .i64 (to val)))
   replace B2F:=h! (B2F.out.only hO_ (by first | assumption | (simp;done) | omega))
   replace HPF:=h! (HPF.out.other (p:=⟨b5,3,none⟩) (.int .i64 (to val)) (by simp))
   replace HCF:=h! (HCF.out.other (p:=⟨b5,3,none⟩) (.int .i64 (to val)) (by simp))
   replace HTF:=h! (HTF.out.other (p:=⟨b5,3,none⟩) (.int .i64 (to val)) (by simp))
   replace HW:=h! (hO_.2.2 HW.out (by first | assumption | omega | (have:=HW.out.size;omega) | (simp;done) | (simp;omega)))
   replace B5R:=h! (Box.to (A':=#[.slice ap2 np cp2,.slice ac2 nc cc2,.int .i64 op,(.int .i64 (to val)),.slice ta2 nt tc2,.int .i64 tn]) (B5R.out.set 3 (.int .i64 (to val))) (by first | rfl | simp))
   clear hO_
   generalize (w9.setCell ⟨b5,3,none⟩ (.int .i64 (to val)))=wa at *
   obtain ⟨lB5R,cB5R,fB5R⟩:=B5R.out
   obtain ⟨lB2F,cB2F,fB2F⟩:=B2F.out
   go_wp2
   clear lB5R cB5R fB5R lB2F cB2F fB2F
   have hO_:=((((((Only.set wa (w.heap.size+1) 0 (.slice ap2 np cp2)).put 1 (.slice ac2 nc cc2)).put 2 (.int .i64 op)).put 3 (.int .i64 (to val))).put 4 (.slice ta2 nt tc2)).put 5 (.int .i64 tn))
   replace B5R:=h! (B5R.out.only hO_ (by first | assumption | (simp;done) | omega))
   replace HPF:=h! ((((((HPF.out.other (p:=⟨w.heap.size+1,0,none⟩) (.slice ap2 np cp2) (by simp)).other (p:=⟨w.heap.size+1,1,none⟩) (.slice ac2 nc cc2) (by simp)).other (p:=⟨w.heap.size+1,2,none⟩) (.int .i64 op) (by simp)).other (p:=⟨w.heap.size+1,3,none⟩) (.int .i64 (to val)) (by simp)).other (p:=⟨w.heap.size+1,4,none⟩) (.slice ta2 nt tc2) (by simp)).other (p:=⟨w.heap.size+1,5,none⟩) (.int .i64 tn) (by simp))
   replace HCF:=h! ((((((HCF.out.other (p:=⟨w.heap.size+1,0,none⟩) (.slice ap2 np cp2) (by simp)).other (p:=⟨w.heap.size+1,1,none⟩) (.slice ac2 nc cc2) (by simp)).other (p:=⟨w.heap.size+1,2,none⟩) (.int .i64 op) (by simp)).other (p:=⟨w.heap.size+1,3,none⟩) (.int .i64 (to val)) (by simp)).other (p:=⟨w.heap.size+1,4,none⟩) (.slice ta2 nt tc2) (by simp)).other (p:=⟨w.heap.size+1,5,none⟩) (.int .i64 tn) (by simp))
   replace HTF:=h! ((((((HTF.out.other (p:=⟨w.heap.size+1,0,none⟩) (.slice ap2 np cp2) (by simp)).other (p:=⟨w.heap.size+1,1,none⟩) (.slice ac2 nc cc2) (by simp)).other (p:=⟨w.heap.size+1,2,none⟩) (.int .i64 op) (by simp)).other (p:=⟨w.heap.size+1,3,none⟩) (.int .i64 (to val)) (by simp)).other (p:=⟨w.heap.size+1,4,none⟩) (.slice ta2 nt tc2) (by simp)).other (p:=⟨w.heap.size+1,5,none⟩) (.int .i64 tn) (by simp))
   replace HW:=h! (hO_.2.2 HW.out (by first | assumption | omega | (have:=HW.out.size;omega) | (simp;done) | (simp;omega)))
   replace B2F:=h! (Box.to (A':=#[(.slice ap2 np cp2),(.slice ac2 nc cc2),(.int .i64 op),(.int .i64 (to val)),(.slice ta2 nt tc2),(.int .i64 tn)]) ((((((B2F.out.set 0 (.slice ap2 np cp2)).set 1 (.slice ac2 nc cc2)).set 2 (.int .i64 op)).set 3 (.int .i64 (to val))).set 4 (.slice ta2 nt tc2)).set 5 (.int .i64 tn)) (by first | rfl | simp))
   clear hO_
   generalize ((((((wa.setCell ⟨w.heap.size+1,0,none⟩ (.slice ap2 np cp2)).setCell ⟨w.heap.size+1,1,none⟩ (.slice ac2 nc cc2)).setCell ⟨w.heap.size+1,2,none⟩ (.int .i64 op)).setCell ⟨w.heap.size+1,3,none⟩ (.int .i64 (to val))).setCell ⟨w.heap.size+1,4,none⟩ (.slice ta2 nt tc2)).setCell ⟨w.heap.size+1,5,none⟩ (.int .i64 tn))=wz at *
   obtain ⟨lB5R,cB5R,fB5R⟩:=B5R.out
   obtain ⟨lB2F,cB2F,fB2F⟩:=B2F.out
   refine bodyPost_ret (v:=.agg #[.slice ap2 np cp2,.slice ac2 nc cc2,.int .i64 op,.int .i64 (to val),.slice ta2 nt tc2,.int .i64 tn]) (by simp [results,Tryz.results41,go_sem, *]) rfl ⟨.slice ap2 np cp2,.slice ac2 nc cc2,.slice ta2 nt tc2,fun k=>S1 k \/ S2 k \/ S3 k,by rw [HM.out,HTE.out.1,HTE.out.2.2], ?_,fun k hk => ?_,HW.out⟩
   ·rw [HM.out]
    exact ⟨⟨_,_,_,S1,S2,S3,rfl,HPF.out.now,HCF.out.now,⟨⟨_,rfl,HTF.out.now⟩,by rw [<-HTE.out.1];exact H64.out.1,HVV.out,by rw [<-HTE.out.2.2];exact H64.out.2.2⟩,HOF.out.1,HOF.out.2.1,HOF.out.2.2,fun _ h=>.inl h,fun _ h=>.inr (.inl h),fun _ h=>.inr (.inr h)⟩,fun k hk=>hk.elim (HPF.out.lt k) (fun h=>h.elim (HCF.out.lt k) (HTF.out.lt k))⟩
   have:=hk.elim (HPF.out.base k) (fun h=>h.elim (HCF.out.base k) (HTF.out.base k));omega
  have hq3:(op == 3)=false:=by simpa using ho3
  have HOP:Hid (¬ (x.term.op=2 \/ x.term.op=3)):=h! (by rw [<-HTE.out.1];exact fun h=>h.elim ho2 ho3)
  have HVV:Hid (In64 val):=h! H64.out.2.1
  have HM:Hid (mapB to x=⟨x.phis.map (mapP to),x.code.map (mapX to), { x.term with val:=val }⟩):=h! (by unfold mapB mapT;rw [if_neg HOP.out,HTE.out.2.1])
  clear ho2 ho3
  go_wp2
  clear lB5R cB5R fB5R lB2F cB2F fB2F
  have hO_:=((((((Only.set W3 (w.heap.size+1) 0 (.slice ap2 np cp2)).put 1 (.slice ac2 nc cc2)).put 2 (.int .i64 op)).put 3 (.int .i64 val)).put 4 (.slice ta2 nt tc2)).put 5 (.int .i64 tn))
  replace B5R:=h! (B5R.out.only hO_ (by first | assumption | (simp;done) | omega))
  replace HPF:=h! ((((((HPF.out.other (p:=⟨w.heap.size+1,0,none⟩) (.slice ap2 np cp2) (by simp)).other (p:=⟨w.heap.size+1,1,none⟩) (.slice ac2 nc cc2) (by simp)).other (p:=⟨w.heap.size+1,2,none⟩) (.int .i64 op) (by simp)).other (p:=⟨w.heap.size+1,3,none⟩) (.int .i64 val) (by simp)).other (p:=⟨w.heap.size+1,4,none⟩) (.slice ta2 nt tc2) (by simp)).other (p:=⟨w.heap.size+1,5,none⟩) (.int .i64 tn) (by simp))
  replace HCF:=h! ((((((HCF.out.other (p:=⟨w.heap.size+1,0,none⟩) (.slice ap2 np cp2) (by simp)).other (p:=⟨w.heap.size+1,1,none⟩) (.slice ac2 nc cc2) (by simp)).other (p:=⟨w.heap.size+1,2,none⟩) (.int .i64 op) (by simp)).other (p:=⟨w.heap.size+1,3,none⟩) (.int .i64 val) (by simp)).other (p:=⟨w.heap.size+1,4,none⟩) (.slice ta2 nt tc2) (by simp)).other (p:=⟨w.heap.size+1,5,none⟩) (.int .i64 tn) (by simp))
  replace HTF:=h! ((((((HTF.out.other (p:=⟨w.heap.size+1,0,none⟩) (.slice ap2 np cp2) (by simp)).other (p:=⟨w.heap.size+1,1,none⟩) (.slice ac2 nc cc2) (by simp)).other (p:=⟨w.heap.size+1,2,none⟩) (.int .i64 op) (by simp)).other (p:=⟨w.heap.size+1,3,none⟩) (.int .i64 val) (by simp)).other (p:=⟨w.heap.size+1,4,none⟩) (.slice ta2 nt tc2) (by simp)).other (p:=⟨w.heap.size+1,5,none⟩) (.int .i64 tn) (by simp))
  replace HW:=h! (hO_.2.2 HW.out (by first | assumption | omega | (have:=HW.out.size;omega) | (simp;done) | (simp;omega)))
  replace B2F:=h! (Box.to (A':=#[(.slice ap2 np cp2),(.slice ac2 nc cc2),(.int .i64 op),(.int .i64 val),(.slice ta2 nt tc2),(.int .i64 tn)]) ((((((B2F.out.set 0 (.slice ap2 np cp2)).set 1 (.slice ac2 nc cc2)).set 2 (.int .i64 op)).set 3 (.int .i64 val)).set 4 (.slice ta2 nt tc2)).set 5 (.int .i64 tn)) (by first | rfl | simp))
  clear hO_
  generalize ((((((W3.setCell ⟨w.heap.size+1,0,none⟩ (.slice ap2 np cp2)).setCell ⟨w.heap.size+1,1,none⟩ (.slice ac2 nc cc2)).setCell ⟨w.heap.size+1,2,none⟩ (.int .i64 op)).setCell ⟨w.heap.size+1,3,none⟩ (.int .i64 val)).setCell ⟨w.heap.size+1,4,none⟩ (.slice ta2 nt tc2)).setCell ⟨w.heap.size+1,5,none⟩ (.int .i64 tn))=wz at *
  obtain ⟨lB5R,cB5R,fB5R⟩:=B5R.out
  obtain ⟨lB2F,cB2F,fB2F⟩:=B2F.out
  refine bodyPost_ret (v:=.agg #[.slice ap2 np cp2,.slice ac2 nc cc2,.int .i64 op,.int .i64 val,.slice ta2 nt tc2,.int .i64 tn]) (by simp [results,Tryz.results41,go_sem, *]) rfl ⟨.slice ap2 np cp2,.slice ac2 nc cc2,.slice ta2 nt tc2,fun k=>S1 k \/ S2 k \/ S3 k,by rw [HM.out,HTE.out.1,HTE.out.2.2], ?_,fun k hk => ?_,HW.out⟩
  ·rw [HM.out]
   exact ⟨⟨_,_,_,S1,S2,S3,rfl,HPF.out.now,HCF.out.now,⟨⟨_,rfl,HTF.out.now⟩,by rw [<-HTE.out.1];exact H64.out.1,HVV.out,by rw [<-HTE.out.2.2];exact H64.out.2.2⟩,HOF.out.1,HOF.out.2.1,HOF.out.2.2,fun _ h=>.inl h,fun _ h=>.inr (.inl h),fun _ h=>.inr (.inr h)⟩,fun k hk=>hk.elim (HPF.out.lt k) (fun h=>h.elim (HCF.out.lt k) (HTF.out.lt k))⟩
  have:=hk.elim (HPF.out.base k) (fun h=>h.elim (HCF.out.base k) (HTF.out.base k));omega
end Go.Proofs.YtagabiidbbhhmaaGreat
