/- Part 43. -/
import Derived.Test.YtagabiidbbhhmaaGreatEB42
import Derived.Test.YtagabiidbbhhmaaGreatEB41
namespace Go.Proofs.YtagabiidbbhhmaaGreat
set_option linter.all false
open Go.RowKit
theorem aBA {α : Type} {xs:List α} {z x : α} {j:Nat} (hx:xs[j]? = some x):(xs.take j ++ List.replicate (xs.length - j) z)[j]? = some z/\(xs.take j ++ List.replicate (xs.length - j) z).set j x=xs.take (j+1) ++ List.replicate (xs.length - (j+1)) z:=by
 have hl:=(aD.1 hx).1
 have ht:(xs.take j).length=j:=by rw [aR];omega
 obtain ⟨m,hm⟩ : ∃ m,xs.length - j=m+1:=⟨xs.length - j - 1,by omega⟩
 have hm2:xs.length - (j+1)=m:=by omega
 rw [hm,hm2,List.replicate_succ]
 constructor
 ·rw [bK (by omega),ht,dE];rfl
 rw [List.set_append_right _ _ (by omega),ht,dE,aE,cU,hx,Option.toList_some,bN];rfl
def aFZ (f:FuncD) (w:World) (e:Ending) (w' : World):Prop := ∃ v S,e = .returned v/\OFunc w' S v f/\mK w.heap.size S/\Below w.heap.size w w'
set_option maxHeartbeats 25600000 in
set_option maxRecDepth 100000 in
theorem aCW {w:World} {v:Value} {f:FuncD} (hv:fJ w v f) (hsz:∀ x ∈ f.blocks,x.phis.length <= 100000/\x.code.length <= 100000) (hnb:f.blocks.length <= 100000):Calls Tryz.prog 48 #[v] w (aFZ f w):=by
 have HV:=h! hv
 obtain ⟨ap,cp,ab,cb,rfl,hp,ha64,hc64,hB⟩:=hv.form
 have H64:=h! (And.intro ha64 hc64)
 obtain ⟨a2,c2,bb,bo,hbe,hbc,hbm,hbl,hba,hbx⟩:=eU hB
 cases hbe
 obtain ⟨np,hnp⟩ : ∃ np,np=f.params.length:=⟨_,rfl⟩
 obtain ⟨ar,har⟩ : ∃ ar,ar=f.arrays:=⟨_,rfl⟩
 obtain ⟨ce,hce⟩ : ∃ ce,ce=f.cells:=⟨_,rfl⟩
 obtain ⟨nb,hnbd⟩ : ∃ nb,nb=f.blocks.length:=⟨_,rfl⟩
 rw [<-hnbd] at hbc hba hbl hnb
 rw [<-hnbd, <-hnp, <-har, <-hce]
 rw [<-hnp] at hp
 have HPR:=h! hp
 have HNP:=h! hnp
 have HNB:=h! hnbd
 have HBA:=h! hba
 have HBX:=h! hbx
 have HAC:Hid (ar=f.arrays/\ce=f.cells):=h! ⟨har,hce⟩
 have HSZ:=h! hsz
 clear hp hB hv hbx hnp hnbd hba har hce ha64 hc64 hsz HV
 go_enter Tryz.func48,Tryz.ntmps48
 go_upto_region 2 with (fail)
 have hA_:=(Below.refl w.heap.size w).alloc (aA _) (.cells #[.slice ap np cp,.int .i64 ar,.int .i64 ce,.slice ab nb cb] 25)
 have HW:=h! hA_
 clear hA_
 have B1:=h! (Box.new w #[.slice ap np cp,.int .i64 ar,.int .i64 ce,.slice ab nb cb] 25)
 have hz0_:(w.alloc (.cells #[.slice ap np cp,.int .i64 ar,.int .i64 ce,.slice ab nb cb] 25)).heap.size=w.heap.size+1:=World.size_alloc _ _
 generalize w.alloc (.cells #[.slice ap np cp,.int .i64 ar,.int .i64 ce,.slice ab nb cb] 25)=wv0 at *
 have hA_:=(Below.refl wv0.heap.size wv0).alloc (aA _) (.cells #[.slice none 0 0,.int .i64 0,.int .i64 0,.slice none 0 0] 25)
 replace B1:=h! (B1.out.later hA_)
 replace HW:=h! (HW.out.trans (hA_.mono HW.out.size))
 clear hA_
 have B2:=h! (Box.new wv0 #[.slice none 0 0,.int .i64 0,.int .i64 0,.slice none 0 0] 25)
 rw [hz0_] at B2
 have hz1_:(wv0.alloc (.cells #[.slice none 0 0,.int .i64 0,.int .i64 0,.slice none 0 0] 25)).heap.size=w.heap.size+1+1:=by rw [World.size_alloc,hz0_]
 clear hz0_
 generalize wv0.alloc (.cells #[.slice none 0 0,.int .i64 0,.int .i64 0,.slice none 0 0] 25)=wv1 at *
 have hA_:=(Below.refl wv1.heap.size wv1).alloc (aA _) (.cells #[.slice ap np cp,.int .i64 ar,.int .i64 ce,.slice ab nb cb] 25)
 replace B1:=h! (B1.out.later hA_)
 replace B2:=h! (B2.out.later hA_)
 replace HW:=h! (HW.out.trans (hA_.mono HW.out.size))
 clear hA_
 have B3:=h! (Box.new wv1 #[.slice ap np cp,.int .i64 ar,.int .i64 ce,.slice ab nb cb] 25)
 rw [hz1_] at B3
 clear hz1_
 generalize wv1.alloc (.cells #[.slice ap np cp,.int .i64 ar,.int .i64 ce,.slice ab nb cb] 25)=wv at *
 obtain ⟨lB1,cB1,fB1⟩:=B1.out
 obtain ⟨lB2,cB2,fB2⟩:=B2.out
 obtain ⟨lB3,cB3,fB3⟩:=B3.out
 go_wp2_with fail
 refine (rN (HPR.out.below HW.out)).mono ?_
 rintro e w2 ⟨pv2,SQ,rfl,hI,hF,hb⟩
 obtain ⟨pa2,pc2,rfl⟩:=hI.ints.form
 rw [<-HNP.out] at hI ⊢
 have HQ:Hid (Holds [w.heap.size,w.heap.size+1,w.heap.size+1+1] (w.heap.size+3) w2 SQ (fun W=>eV W SQ (.slice pa2 np pc2) f.params)):=h! (((iF hI hF).from (by have:=B3.out.lt;omega)).low (by simp))
 clear hI hF
 clear lB1 cB1 fB1 lB2 cB2 fB2 lB3 cB3 fB3
 replace B1:=h! (B1.out.later hb)
 replace B2:=h! (B2.out.later hb)
 replace B3:=h! (B3.out.later hb)
 replace HW:=h! (HW.out.trans (hb.mono HW.out.size))
 clear hb
 obtain ⟨lB1,cB1,fB1⟩:=B1.out
 obtain ⟨lB2,cB2,fB2⟩:=B2.out
 obtain ⟨lB3,cB3,fB3⟩:=B3.out
 go_upto_region 3 with (fail)
 clear lB1 cB1 fB1 lB2 cB2 fB2 lB3 cB3 fB3
 have hO_:=(Only.set w2 (w.heap.size+1+1) 0 (.slice pa2 np pc2))
 replace B1:=h! (B1.out.only hO_ (by first | assumption | (simp;done) | omega))
 replace B2:=h! (B2.out.only hO_ (by first | assumption | (simp;done) | omega))
 replace HQ:=h! (HQ.out.other (p:=⟨w.heap.size+1+1,0,none⟩) (.slice pa2 np pc2) (by simp))
 replace HW:=h! (hO_.2.2 HW.out (by first | assumption | omega | (have:=HW.out.size;omega) | (simp;done) | (simp;omega)))
 replace B3:=h! (Box.to (A':=#[(.slice pa2 np pc2),.int .i64 ar,.int .i64 ce,.slice ab nb cb]) (B3.out.set 0 (.slice pa2 np pc2)) (by first | rfl | simp))
 clear hO_
 generalize (w2.setCell ⟨w.heap.size+1+1,0,none⟩ (.slice pa2 np pc2))=w3 at *
 obtain ⟨lB1,cB1,fB1⟩:=B1.out
 obtain ⟨lB2,cB2,fB2⟩:=B2.out
 obtain ⟨lB3,cB3,fB3⟩:=B3.out
 have hl3:w.heap.size+3 <= w3.heap.size:=by omega
 have HL3:=h! hl3
 have HQ3:=h! HQ.out.lt
 clear hl3
 go_upto_region 4 with (at_make;refine mJ rfl _ _ rfl nb rfl rfl rfl rfl hnb ?_;intro w4 hmk hgr;have hB3:=B3.out.later hgr;obtain ⟨lx,cx,fx⟩:=hB3)
 clear lx cx fx
 have HMK:Hid (Holds [w.heap.size,w.heap.size+1,w.heap.size+1+1] (w.heap.size+3) w4 (Foot.one w3.heap.size) (fun W=>eX W (Foot.one w3.heap.size) (.slice (some ⟨w3.heap.size,0,none⟩) nb nb) (List.replicate nb rG))):=h! ((mY OBlock.nice hmk (fun k hk=>by cases hk;exact HL3.out)).low (by simp))
 clear hmk
 clear lB1 cB1 fB1 lB2 cB2 fB2 lB3 cB3 fB3
 replace B1:=h! (B1.out.later hgr)
 replace B2:=h! (B2.out.later hgr)
 replace B3:=h! (B3.out.later hgr)
 replace HQ:=h! (HQ.out.later hgr)
 replace HW:=h! (HW.out.trans (hgr.mono HW.out.size))
 clear hgr
 obtain ⟨lB1,cB1,fB1⟩:=B1.out
 obtain ⟨lB2,cB2,fB2⟩:=B2.out
 obtain ⟨lB3,cB3,fB3⟩:=B3.out
 clear lB1 cB1 fB1 lB2 cB2 fB2 lB3 cB3 fB3
 have hO_:=(Only.set w4 (w.heap.size+1+1) 3 (.slice (some ⟨w3.heap.size,0,none⟩) nb nb))
 replace B1:=h! (B1.out.only hO_ (by first | assumption | (simp;done) | omega))
 replace B2:=h! (B2.out.only hO_ (by first | assumption | (simp;done) | omega))
 replace HQ:=h! (HQ.out.other (p:=⟨w.heap.size+1+1,3,none⟩) (.slice (some ⟨w3.heap.size,0,none⟩) nb nb) (by simp))
 replace HMK:=h! (HMK.out.other (p:=⟨w.heap.size+1+1,3,none⟩) (.slice (some ⟨w3.heap.size,0,none⟩) nb nb) (by simp))
 replace HW:=h! (hO_.2.2 HW.out (by first | assumption | omega | (have:=HW.out.size;omega) | (simp;done) | (simp;omega)))
 replace B3:=h! (Box.to (A':=#[(.slice pa2 np pc2),.int .i64 ar,.int .i64 ce,(.slice (some ⟨w3.heap.size,0,none⟩) nb nb)]) (B3.out.set 3 (.slice (some ⟨w3.heap.size,0,none⟩) nb nb)) (by first | rfl | simp))
 clear hO_
 generalize (w4.setCell ⟨w.heap.size+1+1,3,none⟩ (.slice (some ⟨w3.heap.size,0,none⟩) nb nb))=w5 at *
 obtain ⟨lB1,cB1,fB1⟩:=B1.out
 obtain ⟨lB2,cB2,fB2⟩:=B2.out
 obtain ⟨lB3,cB3,fB3⟩:=B3.out
 obtain ⟨gB,hgB⟩ : ∃ g,g=w3.heap.size:=⟨_,rfl⟩
 rw [<-hgB] at HMK B3 HL3 HQ3
 have HQM:Hid (SQ.off (Foot.one gB)):=h! (fun k h1 h2=>by cases h2;have:=HQ3.out _ h1;omega)
 simp only [<-hgB]
 clear hgB HQ3
 go_wp2_with fail
 go_loopw [19] (fun i wr => ∃ (j:Nat) (SB:Foot),j <= nb/\i = .int .i64 j/\Below w.heap.size w wr/\Box wr w.heap.size #[.slice ap np cp,.int .i64 ar,.int .i64 ce,.slice ab nb cb]/\Box wr (w.heap.size+1) #[.slice none 0 0,.int .i64 0,.int .i64 0,.slice none 0 0]/\Box wr (w.heap.size+1+1) #[.slice pa2 np pc2,.int .i64 ar,.int .i64 ce,.slice (some ⟨gB,0,none⟩) nb nb] /\
   Holds [w.heap.size,w.heap.size+1,w.heap.size+1+1] (w.heap.size+3) wr SQ (fun W=>eV W SQ (.slice pa2 np pc2) f.params)/\Holds [w.heap.size,w.heap.size+1,w.heap.size+1+1] (w.heap.size+3) wr SB (fun W=>eX W SB (.slice (some ⟨gB,0,none⟩) nb nb) (f.blocks.take j ++ List.replicate (nb - j) rG))/\SQ.off SB) (fun i _=>nb - (intOf i).toNat)
 case atStart=>exact ⟨0,Foot.one gB,Nat.zero_le _,rfl,HW.out,B1.out,B2.out,B3.out,HQ.out,by simpa using HMK.out,HQM.out⟩
 obtain ⟨j,SB,hj,rfl,hW,h1,h2,h3,h4,h5,h6⟩:=hrel
 clear lB1 cB1 fB1 lB2 cB2 fB2 lB3 cB3 fB3
 replace HW:=h! hW
 replace B1:=h! h1
 replace B2:=h! h2
 replace B3:=h! h3
 replace HQ:=h! h4
 have HBS:=h! h5
 have HQB:=h! h6
 clear hW h1 h2 h3 h4 h5 h6 HMK HQM
 generalize wr=w6 at *
 obtain ⟨lB1,cB1,fB1⟩:=B1.out
 obtain ⟨lB2,cB2,fB2⟩:=B2.out
 obtain ⟨lB3,cB3,fB3⟩:=B3.out
 by_cases hlt:j < nb
 ·obtain ⟨rfl,hbp⟩:=HBA.out (by omega)
  obtain ⟨x,hxm⟩ : ∃ x,f.blocks[j]? = some x:=⟨_,aC (by have:=HNB.out;omega)⟩
  obtain ⟨api,aii,ati,cpi,cii,cti,hC⟩:=HBX.out j x hxm
  have HBV:=h! hC.blockV
  obtain ⟨k0,k1,k2,k3,k4,k5, -, -, -, -, -, -⟩:=hC.below HW.out hbp
  have HSX:=h! (HSZ.out x (aG hxm))
  have HST:=h! (aBA (z:=rG) hxm)
  rw [<-HNB.out] at HST
  clear hxm hC
  have HB4L:Hid (∀ k,SB k -> k < w6.heap.size):=h! HBS.out.lt
  have HQ4L:Hid (∀ k,SQ k -> k < w6.heap.size):=h! HQ.out.lt
  have hl6:w.heap.size+3 <= w6.heap.size:=by omega
  go_upto_region 7 with (fail)
  have nBLB1:w6.heap.size ≠ w.heap.size:=fun e=>by have:=lB1;omega
  have nB1BL:w.heap.size ≠ w6.heap.size:=fun e=>nBLB1 e.symm
  have nBLB2:w6.heap.size ≠ w.heap.size+1:=fun e=>by have:=lB2;omega
  have nB2BL:w.heap.size+1 ≠ w6.heap.size:=fun e=>nBLB2 e.symm
  have nBLB3:w6.heap.size ≠ w.heap.size+1+1:=fun e=>by have:=lB3;omega
  have nB3BL:w.heap.size+1+1 ≠ w6.heap.size:=fun e=>nBLB3 e.symm
  clear lB1 cB1 fB1 lB2 cB2 fB2 lB3 cB3 fB3
  have hA_:=(Below.refl w6.heap.size w6).alloc (aA _) (.cells #[.slice api x.phis.length cpi,.slice aii x.code.length cii,.int .i64 x.term.op,.int .i64 x.term.val,.slice ati x.term.to.length cti,.int .i64 x.term.n] 63)
  replace B1:=h! (B1.out.later hA_)
  replace B2:=h! (B2.out.later hA_)
  replace B3:=h! (B3.out.later hA_)
  replace HQ:=h! (HQ.out.later hA_)
  replace HBS:=h! (HBS.out.later hA_)
  replace HW:=h! (HW.out.trans (hA_.mono HW.out.size))
  clear hA_
  have BL:=h! (Box.new w6 #[.slice api x.phis.length cpi,.slice aii x.code.length cii,.int .i64 x.term.op,.int .i64 x.term.val,.slice ati x.term.to.length cti,.int .i64 x.term.n] 63)
  generalize w6.alloc (.cells #[.slice api x.phis.length cpi,.slice aii x.code.length cii,.int .i64 x.term.op,.int .i64 x.term.val,.slice ati x.term.to.length cti,.int .i64 x.term.n] 63)=w7 at *
  obtain ⟨lB1,cB1,fB1⟩:=B1.out
  obtain ⟨lB2,cB2,fB2⟩:=B2.out
  obtain ⟨lB3,cB3,fB3⟩:=B3.out
  obtain ⟨lBL,cBL,fBL⟩:=BL.out
  clear k0 k1 k2 k3 k4 k5
  have HL7:Hid (w6.heap.size <= w7.heap.size):=h! (by have:=BL.out.lt;omega)
  refine Four.wp_region_grow (XF:=(fun _=>Foot.none)) (I:=(fun _=>True)) 5 (fun ν kz=>match kz with | 4=>.holds (fun u w' => ∃ (pv uv tv:Value) (S:Foot),u = .agg #[pv,uv,.int .i64 x.term.op,.int .i64 x.term.val,tv,.int .i64 x.term.n]/\Holds [] w7.heap.size w' S (fun W=>OBlock W S [pv,uv,.int .i64 x.term.op,.int .i64 x.term.val,tv,.int .i64 x.term.n] x)) | _=>.plain) (by kernel_rfl) (by kernel_rfl) ?_ ?_ (fun _ _ h=>h.elim) (fun _ _ _ _=>trivial) trivial ?_ (fun ν => ?_)
  ·(intro ν k;(try dsimp only);split <;> first | exact True.intro | (intro u w1 w2 hu hb;(obtain ⟨pv,uv,tv,S,h1,h2⟩:=hu;exact ⟨pv,uv,tv,S,h1,h2.off hb (fun _ _ ⟨_,_,h⟩=>h.elim)⟩)))
  ·(intro ν ν' k h;first | rfl | ((try dsimp only);split <;> first | rfl))
  ·(intro ν j B mk A h;(try dsimp only at h);split at h <;> first | (cases h;exact Nat.le_refl _) | cases h)
  simp only [aQ,aU,aT,aY]
  iterate 4 (refine Four.Grow.val (v := ?_) rfl rfl (fun wg hbg hdg => ?_) ?_;rotate_left;(focus ((obtain ⟨lg0,cg0,fg0⟩:=B1.out.off hbg.off (fun ⟨_,h⟩=>h.elim));(obtain ⟨lg1,cg1,fg1⟩:=B2.out.off hbg.off (fun ⟨_,h⟩=>h.elim));(obtain ⟨lg2,cg2,fg2⟩:=B3.out.off hbg.off (fun ⟨_,h⟩=>h.elim));(obtain ⟨lg3,cg3,fg3⟩:=BL.out.off hbg.off (fun ⟨_,h⟩=>h.elim));clear hbg hdg;first | (go_simp;done) | (go_simp;with_reducible rfl)));simp only [Act.put,aB,aE,aF])
  refine Four.Grow.call (f := ?_) (args := ?_) rfl (fun wg => ?_) (fun wg hbg hdg => ?_) ?_
  rotate_left 2
  focus (first | (go_simp;done) | (go_simp;refine And.intro ?_ ?_ <;> with_reducible rfl) | (go_simp;with_reducible rfl))
  focus (exact (aAG (HBV.out.below (HW.out.trans ((pre0 hbg).mono HW.out.size))) HSX.out.1 HSX.out.2).mono (fun e w2 ⟨pv,uv,tv,S,he,hO,hF,hw⟩=>⟨_,he,⟨pv,uv,tv,S,rfl,(lP OBlock.nice hO hF).from hbg.1.size⟩,hw⟩))
  simp only [Act.put,Known.val,aB,aE,aF]
  intro wg hb hf hap
  clear hap
  clear lB1 cB1 fB1 lB2 cB2 fB2 lB3 cB3 fB3 lBL cBL fBL
  replace B1:=h! (B1.out.off hb.1 (fun ⟨_,h⟩=>h.elim))
  replace B2:=h! (B2.out.off hb.1 (fun ⟨_,h⟩=>h.elim))
  replace B3:=h! (B3.out.off hb.1 (fun ⟨_,h⟩=>h.elim))
  replace BL:=h! (BL.out.off hb.1 (fun ⟨_,h⟩=>h.elim))
  replace HQ:=h! (HQ.out.off hb.1 (fun _ _ ⟨_,h⟩=>h.elim))
  replace HBS:=h! (HBS.out.off hb.1 (fun _ _ ⟨_,h⟩=>h.elim))
  replace HW:=h! (HW.out.trans (hb.1.below HW.out.size (fun _ _ ⟨_,h⟩=>h.elim)))
  obtain ⟨lB1,cB1,fB1⟩:=B1.out
  obtain ⟨lB2,cB2,fB2⟩:=B2.out
  obtain ⟨lB3,cB3,fB3⟩:=B3.out
  obtain ⟨lBL,cBL,fBL⟩:=BL.out
  simp only [bG,Nat.reduceAdd]
  have h4:∃ (pv uv tv:Value) (S:Foot), ν 4 = .agg #[pv,uv,.int .i64 x.term.op,.int .i64 x.term.val,tv,.int .i64 x.term.n]/\Holds [] w7.heap.size wg S (fun W=>OBlock W S [pv,uv,.int .i64 x.term.op,.int .i64 x.term.val,tv,.int .i64 x.term.n] x):=hf 4 (by omega)
  obtain ⟨pv,uv,tv,SN,e4,k4⟩:=h4
  obtain ⟨⟨_,_,_,S1,S2,S3,e5,o1,o2,o3, -⟩, -⟩:=k4.now
  obtain ⟨⟨tv',e6,o4⟩, -⟩:=o3
  cases e5
  cases e6
  obtain ⟨pa,pcc,rfl⟩:=(o1.reads (R0:=PhiR) fun _ _ _ h=>h.reads).form
  obtain ⟨ua,ucc,rfl⟩:=(o2.reads (R0:=gY) fun _ _ _ h=>h.reads).form
  obtain ⟨tta,ttc,rfl⟩:=o4.ints.form
  simp only [e4]
  have K4:=h! k4
  clear e4 k4 hf o1 o2 o4 hb
  obtain ⟨g,cap,z1,z2,z3,z4,z5,z6,T1,T2,T3,hv,hgl,hSg,hC,hfr, -⟩:=HBS.out.now.open HST.out.1
  obtain ⟨rfl,rfl⟩ : gB=g/\nb=cap:=by injection hv with h1 h2 h3;injection h1 with h1;injection h1 with h1;exact ⟨h1,h3⟩
  obtain ⟨c0,c1,c2,c3,c4,c5, -, -, -, -, -, -⟩:=hC
  have HSG:=h! hSg
  have HNS:Hid (SN.off SB):=h! (fun k h1 h2=>by have:=HB4L.out k h2;have:=K4.out.base k h1;have:=HL7.out;omega)
  have HNQ:Hid (SQ.off SN):=h! (fun k h1 h2=>by have:=HQ4L.out k h1;have:=K4.out.base k h2;have:=HL7.out;omega)
  have HPUT:=h! (rI HBS.out.now HST.out.1 hv K4.out.now HNS.out)
  have HOFF:=h! (qC wg gB (j * 6) (.slice pa x.phis.length pcc) (.slice ua x.code.length ucc) (.int .i64 x.term.op) (.int .i64 x.term.val) (.slice tta x.term.to.length ttc) (.int .i64 x.term.n))
  unfold put6 at HPUT HOFF
  rw [HST.out.2] at HPUT
  clear hv hgl hSg
  go_upto_region 8 with (fail)
  clear c0 c1 c2 c3 c4 c5 hfr
  clear lB1 cB1 fB1 lB2 cB2 fB2 lB3 cB3 fB3 lBL cBL fBL
  generalize ((((((wg.setCell ⟨gB,j * 6,none⟩ (.slice pa x.phis.length pcc)).setCell ⟨gB,j * 6+1,none⟩ (.slice ua x.code.length ucc)).setCell ⟨gB,j * 6+2,none⟩ (.int .i64 x.term.op)).setCell ⟨gB,j * 6+3,none⟩ (.int .i64 x.term.val)).setCell ⟨gB,j * 6+4,none⟩ (.slice tta x.term.to.length ttc)).setCell ⟨gB,j * 6+5,none⟩ (.int .i64 x.term.n))=w8 at *
  replace B1:=h! (B1.out.off HOFF.out (fun h=>HBS.out.free _ HSG.out (by rw [<-h];simp)))
  replace B2:=h! (B2.out.off HOFF.out (fun h=>HBS.out.free _ HSG.out (by rw [<-h];simp)))
  replace B3:=h! (B3.out.off HOFF.out (fun h=>HBS.out.free _ HSG.out (by rw [<-h];simp)))
  replace HQ:=h! (HQ.out.off HOFF.out (fun k h1 h2=>HQB.out k h1 (by cases h2;exact HSG.out)))
  replace HW:=h! (HW.out.trans (HOFF.out.below HW.out.size (fun k _ hk=>by cases hk;have:=HBS.out.base _ HSG.out;omega)))
  have HBS2:Hid (Holds [w.heap.size,w.heap.size+1,w.heap.size+1+1] (w.heap.size+3) w8 (fun k=>SB k \/ SN k) (fun W=>eX W (fun k=>SB k \/ SN k) (.slice (some ⟨gB,0,none⟩) nb nb) (f.blocks.take (j+1) ++ List.replicate (nb - (j+1)) rG))) :=
   h! ((mY OBlock.nice HPUT.out (fun k hk=>by rcases hk with hk | hk;exact HBS.out.base k hk;have:=K4.out.base k hk;have:=HL7.out;omega)).low (by simp))
  replace HQB:Hid (SQ.off (fun k=>SB k \/ SN k)):=h! (fun k h1 h2=>by rcases h2 with h2 | h2;exact HQB.out k h1 h2;exact HNQ.out k h1 h2)
  clear HBS HPUT HOFF K4 BL
  obtain ⟨lB1,cB1,fB1⟩:=B1.out
  obtain ⟨lB2,cB2,fB2⟩:=B2.out
  obtain ⟨lB3,cB3,fB3⟩:=B3.out
  go_wp2
  go_roundw
  case rel=>exact ⟨j+1,_,hlt,by go_num,HW.out,B1.out,B2.out,B3.out,HQ.out,HBS2.out,HQB.out⟩
  simp [intOf];omega
 have hjn:j=nb:=by omega
 have HBF:Hid (Holds [w.heap.size,w.heap.size+1,w.heap.size+1+1] (w.heap.size+3) w6 SB (fun W=>eX W SB (.slice (some ⟨gB,0,none⟩) nb nb) f.blocks)):=h! (by
  have h9:=HBS.out
  rw [hjn,dE,aH (by have:=HNB.out;omega)] at h9
  simpa using h9)
 clear HBS hjn
 go_wp2
 clear lB1 cB1 fB1 lB2 cB2 fB2 lB3 cB3 fB3
 have hO_:=((((Only.set w6 (w.heap.size+1) 0 (.slice pa2 np pc2)).put 1 (.int .i64 ar)).put 2 (.int .i64 ce)).put 3 (.slice (some ⟨gB,0,none⟩) nb nb))
 replace B1:=h! (B1.out.only hO_ (by first | assumption | (simp;done) | omega))
 replace B3:=h! (B3.out.only hO_ (by first | assumption | (simp;done) | omega))
 replace HQ:=h! ((((HQ.out.other (p:=⟨w.heap.size+1,0,none⟩) (.slice pa2 np pc2) (by simp)).other (p:=⟨w.heap.size+1,1,none⟩) (.int .i64 ar) (by simp)).other (p:=⟨w.heap.size+1,2,none⟩) (.int .i64 ce) (by simp)).other (p:=⟨w.heap.size+1,3,none⟩) (.slice (some ⟨gB,0,none⟩) nb nb) (by simp))
 replace HBF:=h! ((((HBF.out.other (p:=⟨w.heap.size+1,0,none⟩) (.slice pa2 np pc2) (by simp)).other (p:=⟨w.heap.size+1,1,none⟩) (.int .i64 ar) (by simp)).other (p:=⟨w.heap.size+1,2,none⟩) (.int .i64 ce) (by simp)).other (p:=⟨w.heap.size+1,3,none⟩) (.slice (some ⟨gB,0,none⟩) nb nb) (by simp))
 replace HW:=h! (hO_.2.2 HW.out (by first | assumption | omega | (have:=HW.out.size;omega) | (simp;done) | (simp;omega)))
 replace B2:=h! (Box.to (A':=#[(.slice pa2 np pc2),(.int .i64 ar),(.int .i64 ce),(.slice (some ⟨gB,0,none⟩) nb nb)]) ((((B2.out.set 0 (.slice pa2 np pc2)).set 1 (.int .i64 ar)).set 2 (.int .i64 ce)).set 3 (.slice (some ⟨gB,0,none⟩) nb nb)) (by first | rfl | simp))
 clear hO_
 generalize ((((w6.setCell ⟨w.heap.size+1,0,none⟩ (.slice pa2 np pc2)).setCell ⟨w.heap.size+1,1,none⟩ (.int .i64 ar)).setCell ⟨w.heap.size+1,2,none⟩ (.int .i64 ce)).setCell ⟨w.heap.size+1,3,none⟩ (.slice (some ⟨gB,0,none⟩) nb nb))=w7 at *
 obtain ⟨lB1,cB1,fB1⟩:=B1.out
 obtain ⟨lB2,cB2,fB2⟩:=B2.out
 obtain ⟨lB3,cB3,fB3⟩:=B3.out
 refine bodyPost_ret (v:=.agg #[.slice pa2 np pc2,.int .i64 ar,.int .i64 ce,.slice (some ⟨gB,0,none⟩) nb nb]) (by simp [results,Tryz.results48,go_sem, *]) rfl ⟨_,fun q=>SQ q \/ SB q,rfl,⟨⟨_,_,SQ,SB,by rw [HAC.out.1,HAC.out.2],HQ.out.now,HBF.out.now,HQB.out,fun k h=>.inl h,fun k h=>.inr h⟩,fun k hk=>hk.elim (HQ.out.lt k) (HBF.out.lt k),H64.out.1,H64.out.2⟩,fun k hk => ?_,HW.out⟩
 rcases hk with hk | hk
 ·have:=HQ.out.base k hk;omega
 have:=HBF.out.base k hk;omega
theorem gI.open {W:World} {S:Foot} {v:Value} {ps:List PhiD} (h:gI W S v ps) {j:Nat} {p:PhiD} (hj:ps[j]? = some p) :
  ∃ (g cap:Nat) (af av:Option Addr) (cf cv:Nat) (cs:List Value) (G Sf Sv:Foot),v = .slice (some ⟨g,0,none⟩) ps.length cap/\g < W.heap.size/\G g/\(∀ k,G k -> S k)/\PhiC W g (j * 4) p af av cf cv/\(∀ o,W.frozen? ⟨g,o,none⟩=false)/\cs[j * 4+2]? = some (.slice af p.src.length cf)/\cs[j * 4+3]? = some (.slice av p.vals.length cv) /\
   ORow W G 78 4 v ps.length cs/\eV W Sf (.slice af p.src.length cf) p.src/\eV W Sv (.slice av p.vals.length cv) p.vals/\(∀ k,Sf k -> S k)/\(∀ k,Sv k -> S k)/\Sf.off Sv/\Sf.off G/\Sv.off G /\
   (∀ (W' : World) (u2 u3:Value) (src vals:List Int) (Sf' Sv' : Foot),Off (G.or (Sf.or Sv)) W W' -> ORow W' G 78 4 v ps.length ((cs.set (j * 4+2) u2).set (j * 4+3) u3) -> eV W' Sf' u2 src -> eV W' Sv' u3 vals -> Sf'.off Sv' ->
    (∀ k,Sf' k -> Sf k \/ W.heap.size <= k) -> (∀ k,Sv' k -> Sv k \/ W.heap.size <= k) -> gI W' (fun k=>S k \/ Sf' k \/ Sv' k) v (ps.set j { p with src:=src,vals:=vals })):=by
 obtain ⟨cs,G,F,hp⟩:=h
 have hjl:=(aD.1 hj).1
 have hn:0 < ps.length:=by omega
 obtain ⟨g,cap,hv,hG, -, -,hgl,hcell,hfr⟩:=hp.row.addr hn
 obtain ⟨⟨a,b,Sf,Sv,hch,h1,h2,h12,i1,i2⟩,hFl,q1,q2⟩:=hp.el j p hj
 obtain ⟨af,cf,rfl⟩:=h1.ints.form
 obtain ⟨av,cv,rfl⟩:=h2.ints.form
 have hc:∀ o u,o < 4 -> (iO cs 4 j)[o]? = some u -> W.cell? ⟨g,j * 4+o,none⟩=some u:=fun o u ho hu=>hcell _ _ (by rw [<-jI ho];exact hu)
 have hch2:=hch
 rw [hch] at hc
 have nG:∀ k,F j k -> ¬ G k:=hp.free j hjl
 have inS:∀ k,F j k -> S k:=fun k hk=>hp.inF j k hjl hk
 refine ⟨g,cap,af,av,cf,cv,cs,G,Sf,Sv,hv,hgl,hG,hp.inG,⟨hc 0 _ (by omega) rfl,hc 1 _ (by omega) rfl,hc 2 _ (by omega) rfl,hc 3 _ (by omega) rfl,h1.ints,h2.ints,q1,q2⟩,hfr,by rw [<-jI (by omega),hch2];rfl,by rw [<-jI (by omega),hch2];rfl,hp.row,h1,h2,
  fun k hk=>inS k (i1 k hk),fun k hk=>inS k (i2 k hk),h12,fun k a b=>nG k (i1 k a) b,fun k a b=>nG k (i2 k a) b,fun W' u2 u3 src vals Sf' Sv' ho hrow ha hb hab hf' hv' => ?_⟩
 have ho2:Off (G.or (F j)) W W':=ho.mono fun k _ hk=>by
  rcases hk with hk | hk | hk
  ·exact .inl hk
  ·exact .inr (i1 k hk)
  exact .inr (i2 k hk)
 refine ⟨_,G,_,hp.put OPhi.nice hj { p with src:=src,vals:=vals } (Fj:=fun k=>Sf' k \/ Sv' k) ho2 hrow (fun i hi hne => ?_) ?_ (fun k hk => ?_) _ (fun k hk=>.inl hk) (fun k hk=>.inr hk) (fun k hk => ?_)⟩
 ·rw [iC hne (by omega),iC hne (by omega)]
 ·rw [fD (by omega),fD (by omega),hch2]
  exact ⟨⟨u2,u3,Sf',Sv',rfl,ha,hb,hab,fun k h=>.inl h,fun k h=>.inr h⟩,fun k hk=>hk.elim (ha.lt k) (hb.lt k),q1,q2⟩
 ·rcases hk with hk | hk
  ·rcases hf' k hk with c | c
   ·exact .inl (i1 k c)
   exact .inr fun hs=>by have:=hp.lt k hs;omega
  rcases hv' k hk with c | c
  ·exact .inl (i2 k c)
  exact .inr fun hs=>by have:=hp.lt k hs;omega
 ·rcases hk with hk | hk | hk
  ·exact bA (hp.lt k hk) ho.size
  ·exact ha.lt k hk
  exact hb.lt k hk
theorem eV.addr {W:World} {S:Foot} {v:Value} {xs:List Int} (h:eV W S v xs) {i:Nat} {x:Int} (hi:xs[i]? = some x) :
  ∃ g cap,v = .slice (some ⟨g,0,none⟩) xs.length cap/\S g/\g < W.heap.size/\W.cell? ⟨g,i,none⟩=some (.int .i64 x)/\(∀ o,W.frozen? ⟨g,o,none⟩=false) /\ ∀ y,In64 y -> eV (W.setCell ⟨g,i,none⟩ (.int .i64 y)) S v (xs.set i y):=by
 have hil:=(aD.1 hi).1
 obtain ⟨g,cap,hv,hG, -, -,hgl,hcell,hfr⟩:=h.1.addr (by omega)
 exact ⟨g,cap,hv,hG,hgl,hcell i _ (by rw [aM,hi];rfl),hfr,fun y hy=>h.set hv hil hy⟩
def kS:FuncD:=⟨[],0,0,[]⟩
theorem getD_some {α : Type} {l:List α} {i:Nat} {x d : α} (h:l[i]? = some x):l.getD i d=x:=by rw [aO,h];rfl
theorem Off.grow {S S' : Foot} {A B C:World} (h:Off S A B) (k:Off S' B C) (hs:∀ q,S' q -> S q \/ A.heap.size <= q):Off S A C :=
 ⟨k.os.trans h.os,k.tape.trans h.tape,k.output.trans h.output,bI h.size k.size,fun i hi hn=>(k.block i (bA hi h.size) fun hm=>(hs i hm).elim hn (fun h=>by omega)).trans (h.block i hi hn)⟩
theorem OFunc.zero {W:World}:OFunc W Foot.none (.agg #[.slice none 0 0,.int .i64 0,.int .i64 0,.slice none 0 0]) kS :=
 ⟨⟨_,_,Foot.none,Foot.none,rfl,eV.nil none,OSl.nil none,fun _ h=>h.elim,fun _ h=>h.elim,fun _ h=>h.elim⟩,fun _ h=>h.elim,⟨by decide,by decide⟩,⟨by decide,by decide⟩⟩
theorem Off.cell {S:Foot} {W W' : World} (h:Off S W W') {b o:Nat} (hl:b < W.heap.size) (hn:¬ S b):W'.cell? ⟨b,o,none⟩=W.cell? ⟨b,o,none⟩:=World.cell?_of_block (w:=W) (a:=⟨b,o,none⟩) (h.block b hl hn)
theorem nY {f:FuncD} (hc:eS f=0):(∀ x ∈ f.blocks,x.phis.length <= 100000/\x.code.length <= 100000)/\f.blocks.length <= 100000:=by
 have hf:=(fA hc).1
 have hs:=(jJ hf).size
 have hn:=(iJ hf).2
 refine ⟨fun x hx => ?_,by omega⟩
 have h1:gK x <= jV f:=by
  unfold jV
  have:∀ (l:List BlockD),x ∈ l -> gK x <= (l.map gK).sum/\0 <= (l.map gK).sum:=by
   intro l
   induction l with
   | nil=>intro h;cases h
   | cons y l ih =>
    intro h
    have hy:0 <= gK y:=by unfold gK;omega
    have hnn:∀ (l:List BlockD),0 <= (l.map gK).sum:=by
     intro l
     induction l with
     | nil=>simp
     | cons z l ih=>have:0 <= gK z:=(by unfold gK;omega);simp only [cT,List.sum_cons];omega
    have:=hnn l
    simp only [cT,List.sum_cons]
    rcases bP.1 h with rfl | h
    ·omega
    have:=(ih h).1;omega
  exact (this _ hx).1
 unfold gK at h1
 omega
theorem OBlock.one {W:World} {S:Foot} {cs:List Value} {b:BlockD} (h:OBlock W S cs b):∀ u ∈ cs,u.oneCell' = true:=by
 obtain ⟨⟨v,u,t,S1,S2,S3,rfl,h1,h2,⟨⟨tv,rfl,h3⟩, -⟩, -⟩, -⟩:=h
 obtain ⟨a1,c1,rfl⟩:=(h1.reads (R0:=PhiR) fun _ _ _ h=>h.reads).form
 obtain ⟨a2,c2,rfl⟩:=(h2.reads (R0:=gY) fun _ _ _ h=>h.reads).form
 obtain ⟨a3,c3,rfl⟩:=h3.ints.form
 simp [Value.oneCell']
theorem Off.frozen {S:Foot} {W W' : World} (h:Off S W W') {b o:Nat} (hl:b < W.heap.size) (hn:¬ S b):W'.frozen? ⟨b,o,none⟩=W.frozen? ⟨b,o,none⟩:=World.frozen?_of_block (w:=W) (a:=⟨b,o,none⟩) (h.block b hl hn)
end Go.Proofs.YtagabiidbbhhmaaGreat
