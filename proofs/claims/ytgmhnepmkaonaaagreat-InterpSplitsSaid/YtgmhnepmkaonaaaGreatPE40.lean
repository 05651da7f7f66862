/- Part 40. -/
import Derived.Test.YtgmhnepmkaonaaaGreatPE33
import Derived.Test.YtgmhnepmkaonaaaGreatPE13
import Derived.Test.YtgmhnepmkaonaaaGreatPE32
import Derived.Test.YtgmhnepmkaonaaaGreatPE34
namespace Go.Proofs.YtgmhnepmkaonaaaGreat
set_option linter.all false
open Go.RowKit
theorem aCS {α : Type} {xs:List α} {z x : α} {j:Nat} (hx:xs[j]? = some x):(xs.take j ++ List.replicate (xs.length - j) z)[j]? = some z/\(xs.take j ++ List.replicate (xs.length - j) z).set j x=xs.take (j+1) ++ List.replicate (xs.length - (j+1)) z:=by
 have hl:=(aD.1 hx).1
 have ht:(xs.take j).length=j:=by rw [bA];omega
 obtain ⟨m,hm⟩ : ∃ m,xs.length - j=m+1:=⟨xs.length - j - 1,by omega⟩
 have hm2:xs.length - (j+1)=m:=by omega
 rw [hm,hm2,List.replicate_succ]
 constructor
 ·rw [bX (by omega),ht,dT];rfl
 rw [List.set_append_right _ _ (by omega),ht,dT,aE,cA,hx,eB,bV];rfl
def aIH (f:FuncD) (w:World) (e:Ending) (w' : World):Prop := ∃ v S,e = .returned v/\OFunc w' S v f/\lV w.heap.size S/\Below w.heap.size w w'
set_option maxHeartbeats 25600000 in
set_option maxRecDepth 100000 in
theorem aGX {w:World} {v:Value} {f:FuncD} (hv:gG w v f) (hsz:∀ x ∈ f.blocks,x.phis.length <= 100000/\x.code.length <= 100000) (hnb:f.blocks.length <= 100000):Calls Tryz.prog 55 #[v] w (aIH f w):=by
 have HV:=h! hv
 obtain ⟨ap,cp,ab,cb,rfl,hp,ha64,hc64,hB⟩:=hv.form
 have H64:=h! (And.intro ha64 hc64)
 obtain ⟨a2,c2,bb,bo,hbe,hbc,hbm,hbl,hba,hbx⟩:=fA hB
 cases hbe
 obtain ⟨np,hnp⟩ : ∃ np,np=f.params.length:=⟨_,rfl⟩
 obtain ⟨ar,har⟩ : ∃ ar,ar=f.arrays:=⟨_,rfl⟩
 obtain ⟨ce,hce⟩ : ∃ ce,ce=f.cells:=⟨_,rfl⟩
 obtain ⟨nb,hnbd⟩ : ∃ nb,nb=f.blocks.length:=⟨_,rfl⟩
 rw [<-hnbd] at hbc hba hbl hnb
 rw [<-hnbd, <-hnp, <-har, <-hce]
 rw [<-hnp] at hp
 have HPR:=h! hp
 have HNP:=h! hnp
 have HNB:=h! hnbd
 have HBA:=h! hba
 have HBX:=h! hbx
 have HAC:Hid (ar=f.arrays/\ce=f.cells):=h! ⟨har,hce⟩
 have HSZ:=h! hsz
 clear hp hB hv hbx hnp hnbd hba har hce ha64 hc64 hsz HV
 go_enter Tryz.func55,Tryz.ntmps55
 go_upto_region 2 with (fail)
 have hA_:=(Below.refl w.heap.size w).alloc (aB _) (.cells #[.slice ap np cp,.int .i64 ar,.int .i64 ce,.slice ab nb cb] 25)
 have HW:=h! hA_
 clear hA_
 have B1:=h! (Box.new w #[.slice ap np cp,.int .i64 ar,.int .i64 ce,.slice ab nb cb] 25)
 have hz0_:(w.alloc (.cells #[.slice ap np cp,.int .i64 ar,.int .i64 ce,.slice ab nb cb] 25)).heap.size=w.heap.size+1:=World.size_alloc _ _
 generalize w.alloc (.cells #[.slice ap np cp,.int .i64 ar,.int .i64 ce,.slice ab nb cb] 25)=wv0 at *
 have hA_:=(Below.refl wv0.heap.size wv0).alloc (aB _) (.cells #[.slice none 0 0,.int .i64 0,.int .i64 0,.slice none 0 0] 25)
 replace B1:=h! (B1.out.later hA_)
 replace HW:=h! (HW.out.trans (hA_.mono HW.out.size))
 clear hA_
 have B2:=h! (Box.new wv0 #[.slice none 0 0,.int .i64 0,.int .i64 0,.slice none 0 0] 25)
 rw [hz0_] at B2
 have hz1_:(wv0.alloc (.cells #[.slice none 0 0,.int .i64 0,.int .i64 0,.slice none 0 0] 25)).heap.size=w.heap.size+1+1:=by rw [World.size_alloc,hz0_]
 clear hz0_
 generalize wv0.alloc (.cells #[.slice none 0 0,.int .i64 0,.int .i64 0,.slice none 0 0] 25)=wv1 at *
 have hA_:=(Below.refl wv1.heap.size wv1).alloc (aB _) (.cells #[.slice ap np cp,.int .i64 ar,.int .i64 ce,.slice ab nb cb] 25)
 replace B1:=h! (B1.out.later hA_)
 replace B2:=h! (B2.out.later hA_)
 replace HW:=h! (HW.out.trans (hA_.mono HW.out.size))
 clear hA_
 have B3:=h! (Box.new wv1 #[.slice ap np cp,.int .i64 ar,.int .i64 ce,.slice ab nb cb] 25)
 rw [hz1_] at B3
 clear hz1_
 generalize wv1.alloc (.cells #[.slice ap np cp,.int .i64 ar,.int .i64 ce,.slice ab nb cb] 25)=wv at *
 obtain ⟨lB1,cB1,fB1⟩:=B1.out
 obtain ⟨lB2,cB2,fB2⟩:=B2.out
 obtain ⟨lB3,cB3,fB3⟩:=B3.out
 go_wp2_with fail
 refine (qO (HPR.out.below HW.out)).mono ?_
 rintro e w2 ⟨pv2,SQ,rfl,hI,hF,hb⟩
 obtain ⟨pa2,pc2,rfl⟩:=hI.ints.form
 rw [<-HNP.out] at hI ⊢
 have HQ:Hid (Holds [w.heap.size,w.heap.size+1,w.heap.size+1+1] (w.heap.size+3) w2 SQ (fun W=>eV W SQ (.slice pa2 np pc2) f.params)):=h! (((iL hI hF).from (by have:=B3.out.lt;omega)).low (by simp))
 clear hI hF
 clear lB1 cB1 fB1 lB2 cB2 fB2 lB3 cB3 fB3
 replace B1:=h! (B1.out.later hb)
 replace B2:=h! (B2.out.later hb)
 replace B3:=h! (B3.out.later hb)
 replace HW:=h! (HW.out.trans (hb.mono HW.out.size))
 clear hb
 obtain ⟨lB1,cB1,fB1⟩:=B1.out
 obtain ⟨lB2,cB2,fB2⟩:=B2.out
 obtain ⟨lB3,cB3,fB3⟩:=B3.out
 go_upto_region 3 with (fail)
 clear lB1 cB1 fB1 lB2 cB2 fB2 lB3 cB3 fB3
 have hO_:=(Only.set w2 (w.heap.size+1+1) 0 (.slice pa2 np pc2))
 replace B1:=h! (B1.out.only hO_ (by first | assumption | (simp;done) | omega))
 replace B2:=h! (B2.out.only hO_ (by first | assumption | (simp;done) | omega))
 replace HQ:=h! (HQ.out.other (p:=⟨w.heap.size+1+1,0,none⟩) (.slice pa2 np pc2) (by simp))
 replace HW:=h! (hO_.2.2 HW.out (by first | assumption | omega | (have:=HW.out.size;omega) | (simp;done) | (simp;omega)))
 replace B3:=h! (Box.to (A':=#[(.slice pa2 np pc2),.int .i64 ar,.int .i64 ce,.slice ab nb cb]) (B3.out.set 0 (.slice pa2 np pc2)) (by first | rfl | simp))
 clear hO_
 generalize (w2.setCell ⟨w.heap.size+1+1,0,none⟩ (.slice pa2 np pc2))=w3 at *
 obtain ⟨lB1,cB1,fB1⟩:=B1.out
 obtain ⟨lB2,cB2,fB2⟩:=B2.out
 obtain ⟨lB3,cB3,fB3⟩:=B3.out
 have hl3:w.heap.size+3 <= w3.heap.size:=by omega
 have HL3:=h! hl3
 have HQ3:=h! HQ.out.lt
 clear hl3
 go_upto_region 4 with (at_make;refine nF rfl _ _ rfl nb rfl rfl rfl rfl hnb ?_;intro w4 hmk hgr;have hB3:=B3.out.later hgr;obtain ⟨lx,cx,fx⟩:=hB3)
 clear lx cx fx
 have HMK:Hid (Holds [w.heap.size,w.heap.size+1,w.heap.size+1+1] (w.heap.size+3) w4 (Foot.one w3.heap.size) (fun W=>gS W (Foot.one w3.heap.size) (.slice (some ⟨w3.heap.size,0,none⟩) nb nb) (List.replicate nb tE))):=h! ((oJ OBlock.nice hmk (fun k hk=>by cases hk;exact HL3.out)).low (by simp))
 clear hmk
 clear lB1 cB1 fB1 lB2 cB2 fB2 lB3 cB3 fB3
 replace B1:=h! (B1.out.later hgr)
 replace B2:=h! (B2.out.later hgr)
 replace B3:=h! (B3.out.later hgr)
 replace HQ:=h! (HQ.out.later hgr)
 replace HW:=h! (HW.out.trans (hgr.mono HW.out.size))
 clear hgr
 obtain ⟨lB1,cB1,fB1⟩:=B1.out
 obtain ⟨lB2,cB2,fB2⟩:=B2.out
 obtain ⟨lB3,cB3,fB3⟩:=B3.out
 clear lB1 cB1 fB1 lB2 cB2 fB2 lB3 cB3 fB3
 have hO_:=(Only.set w4 (w.heap.size+1+1) 3 (.slice (some ⟨w3.heap.size,0,none⟩) nb nb))
 replace B1:=h! (B1.out.only hO_ (by first | assumption | (simp;done) | omega))
 replace B2:=h! (B2.out.only hO_ (by first | assumption | (simp;done) | omega))
 replace HQ:=h! (HQ.out.other (p:=⟨w.heap.size+1+1,3,none⟩) (.slice (some ⟨w3.heap.size,0,none⟩) nb nb) (by simp))
 replace HMK:=h! (HMK.out.other (p:=⟨w.heap.size+1+1,3,none⟩) (.slice (some ⟨w3.heap.size,0,none⟩) nb nb) (by simp))
 replace HW:=h! (hO_.2.2 HW.out (by first | assumption | omega | (have:=HW.out.size;omega) | (simp;done) | (simp;omega)))
 replace B3:=h! (Box.to (A':=#[(.slice pa2 np pc2),.int .i64 ar,.int .i64 ce,(.slice (some ⟨w3.heap.size,0,none⟩) nb nb)]) (B3.out.set 3 (.slice (some ⟨w3.heap.size,0,none⟩) nb nb)) (by first | rfl | simp))
 clear hO_
 generalize (w4.setCell ⟨w.heap.size+1+1,3,none⟩ (.slice (some ⟨w3.heap.size,0,none⟩) nb nb))=w5 at *
 obtain ⟨lB1,cB1,fB1⟩:=B1.out
 obtain ⟨lB2,cB2,fB2⟩:=B2.out
 obtain ⟨lB3,cB3,fB3⟩:=B3.out
 obtain ⟨gB,hgB⟩ : ∃ g,g=w3.heap.size:=⟨_,rfl⟩
 rw [<-hgB] at HMK B3 HL3 HQ3
 have HQM:Hid (SQ.off (Foot.one gB)):=h! (fun k h1 h2=>by cases h2;have:=HQ3.out _ h1;omega)
 simp only [<-hgB]
 clear hgB HQ3
 go_wp2_with fail
 go_loopw [19] (fun i wr => ∃ (j:Nat) (SB:Foot),j <= nb/\i = .int .i64 j/\Below w.heap.size w wr/\Box wr w.heap.size #[.slice ap np cp,.int .i64 ar,.int .i64 ce,.slice ab nb cb]/\Box wr (w.heap.size+1) #[.slice none 0 0,.int .i64 0,.int .i64 0,.slice none 0 0]/\Box wr (w.heap.size+1+1) #[.slice pa2 np pc2,.int .i64 ar,.int .i64 ce,.slice (some ⟨gB,0,none⟩) nb nb] /\
   Holds [w.heap.size,w.heap.size+1,w.heap.size+1+1] (w.heap.size+3) wr SQ (fun W=>eV W SQ (.slice pa2 np pc2) f.params)/\Holds [w.heap.size,w.heap.size+1,w.heap.size+1+1] (w.heap.size+3) wr SB (fun W=>gS W SB (.slice (some ⟨gB,0,none⟩) nb nb) (f.blocks.take j ++ List.replicate (nb - j) tE))/\SQ.off SB) (fun i _=>nb - (intOf i).toNat)
 case atStart=>exact ⟨0,Foot.one gB,Nat.zero_le _,rfl,HW.out,B1.out,B2.out,B3.out,HQ.out,by simpa using HMK.out,HQM.out⟩
 obtain ⟨j,SB,hj,rfl,hW,h1,h2,h3,h4,h5,h6⟩:=hrel
 clear lB1 cB1 fB1 lB2 cB2 fB2 lB3 cB3 fB3
 replace HW:=h! hW
 replace B1:=h! h1
 replace B2:=h! h2
 replace B3:=h! h3
 replace HQ:=h! h4
 have HBS:=h! h5
 have HQB:=h! h6
 clear hW h1 h2 h3 h4 h5 h6 HMK HQM
 generalize wr=w6 at *
 obtain ⟨lB1,cB1,fB1⟩:=B1.out
 obtain ⟨lB2,cB2,fB2⟩:=B2.out
 obtain ⟨lB3,cB3,fB3⟩:=B3.out
 by_cases hlt:j < nb
 ·obtain ⟨rfl,hbp⟩:=HBA.out (by omega)
  obtain ⟨x,hxm⟩ : ∃ x,f.blocks[j]? = some x:=⟨_,aC (by have:=HNB.out;omega)⟩
  obtain ⟨api,aii,ati,cpi,cii,cti,hC⟩:=HBX.out j x hxm
  have HBV:=h! hC.blockV
  obtain ⟨k0,k1,k2,k3,k4,k5, -, -, -, -, -, -⟩:=hC.below HW.out hbp
  have HSX:=h! (HSZ.out x (aG hxm))
  have HST:=h! (aCS (z:=tE) hxm)
  rw [<-HNB.out] at HST
  clear hxm hC
  have HB4L:Hid (∀ k,SB k -> k < w6.heap.size):=h! HBS.out.lt
  have HQ4L:Hid (∀ k,SQ k -> k < w6.heap.size):=h! HQ.out.lt
  have hl6:w.heap.size+3 <= w6.heap.size:=by omega
  go_upto_region 7 with (fail)
  have nBLB1:w6.heap.size ≠ w.heap.size:=fun e=>by have:=lB1;omega
  have nB1BL:w.heap.size ≠ w6.heap.size:=fun e=>nBLB1 e.symm
  have nBLB2:w6.heap.size ≠ w.heap.size+1:=fun e=>by have:=lB2;omega
  have nB2BL:w.heap.size+1 ≠ w6.heap.size:=fun e=>nBLB2 e.symm
  have nBLB3:w6.heap.size ≠ w.heap.size+1+1:=fun e=>by have:=lB3;omega
  have nB3BL:w.heap.size+1+1 ≠ w6.heap.size:=fun e=>nBLB3 e.symm
  clear lB1 cB1 fB1 lB2 cB2 fB2 lB3 cB3 fB3
  have hA_:=(Below.refl w6.heap.size w6).alloc (aB _) (.cells #[.slice api x.phis.length cpi,.slice aii x.code.length cii,.int .i64 x.term.op,.int .i64 x.term.val,.slice ati x.term.to.length cti,.int .i64 x.term.n] 75)
  replace B1:=h! (B1.out.later hA_)
  replace B2:=h! (B2.out.later hA_)
  replace B3:=h! (B3.out.later hA_)
  replace HQ:=h! (HQ.out.later hA_)
  replace HBS:=h! (HBS.out.later hA_)
  replace HW:=h! (HW.out.trans (hA_.mono HW.out.size))
  clear hA_
  have BL:=h! (Box.new w6 #[.slice api x.phis.length cpi,.slice aii x.code.length cii,.int .i64 x.term.op,.int .i64 x.term.val,.slice ati x.term.to.length cti,.int .i64 x.term.n] 75)
  generalize w6.alloc (.cells #[.slice api x.phis.length cpi,.slice aii x.code.length cii,.int .i64 x.term.op,.int .i64 x.term.val,.slice ati x.term.to.length cti,.int .i64 x.term.n] 75)=w7 at *
  obtain ⟨lB1,cB1,fB1⟩:=B1.out
  obtain ⟨lB2,cB2,fB2⟩:=B2.out
  obtain ⟨lB3,cB3,fB3⟩:=B3.out
  obtain ⟨lBL,cBL,fBL⟩:=BL.out
  clear k0 k1 k2 k3 k4 k5
  have HL7:Hid (w6.heap.size <= w7.heap.size):=h! (by have:=BL.out.lt;omega)
  refine Four.wp_region_grow (XF:=(fun _=>Foot.none)) (I:=(fun _=>True)) 5 (fun ν kz=>match kz with | 4=>.holds (fun u w' => ∃ (pv uv tv:Value) (S:Foot),u = .agg #[pv,uv,.int .i64 x.term.op,.int .i64 x.term.val,tv,.int .i64 x.term.n]/\Holds [] w7.heap.size w' S (fun W=>OBlock W S [pv,uv,.int .i64 x.term.op,.int .i64 x.term.val,tv,.int .i64 x.term.n] x)) | _=>.plain) (by kernel_rfl) (by kernel_rfl) ?_ ?_ (fun _ _ h=>h.elim) (fun _ _ _ _=>trivial) trivial ?_ (fun ν => ?_)
  ·(intro ν k;(try dsimp only);split <;> first | exact True.intro | (intro u w1 w2 hu hb;(obtain ⟨pv,uv,tv,S,h1,h2⟩:=hu;exact ⟨pv,uv,tv,S,h1,h2.off hb (fun _ _ ⟨_,_,h⟩=>h.elim)⟩)))
  ·(intro ν ν' k h;first | rfl | ((try dsimp only);split <;> first | rfl))
  ·(intro ν j B mk A h;(try dsimp only at h);split at h <;> first | (cases h;exact Nat.le_refl _) | cases h)
  simp only [aQ,aV,aR,aY]
  iterate 4 (refine Four.Grow.val (v := ?_) rfl rfl (fun wg hbg hdg => ?_) ?_;rotate_left;(focus ((obtain ⟨lg0,cg0,fg0⟩:=B1.out.off hbg.off (fun ⟨_,h⟩=>h.elim));(obtain ⟨lg1,cg1,fg1⟩:=B2.out.off hbg.off (fun ⟨_,h⟩=>h.elim));(obtain ⟨lg2,cg2,fg2⟩:=B3.out.off hbg.off (fun ⟨_,h⟩=>h.elim));(obtain ⟨lg3,cg3,fg3⟩:=BL.out.off hbg.off (fun ⟨_,h⟩=>h.elim));clear hbg hdg;first | (go_simp;done) | (go_simp;with_reducible rfl)));simp only [Act.put,aA,aE,aF])
  refine Four.Grow.call (f := ?_) (args := ?_) rfl (fun wg => ?_) (fun wg hbg hdg => ?_) ?_
  rotate_left 2
  focus (first | (go_simp;done) | (go_simp;refine And.intro ?_ ?_ <;> with_reducible rfl) | (go_simp;with_reducible rfl))
  focus (exact (zE (HBV.out.below (HW.out.trans ((pre0 hbg).mono HW.out.size))) HSX.out.1 HSX.out.2).mono (fun e w2 ⟨pv,uv,tv,S,he,hO,hF,hw⟩=>⟨_,he,⟨pv,uv,tv,S,rfl,(nS OBlock.nice hO hF).from hbg.1.size⟩,hw⟩))
  simp only [Act.put,Known.val,aA,aE,aF]
  intro wg hb hf hap
  clear hap
  clear lB1 cB1 fB1 lB2 cB2 fB2 lB3 cB3 fB3 lBL cBL fBL
  replace B1:=h! (B1.out.off hb.1 (fun ⟨_,h⟩=>h.elim))
  replace B2:=h! (B2.out.off hb.1 (fun ⟨_,h⟩=>h.elim))
  replace B3:=h! (B3.out.off hb.1 (fun ⟨_,h⟩=>h.elim))
  replace BL:=h! (BL.out.off hb.1 (fun ⟨_,h⟩=>h.elim))
  replace HQ:=h! (HQ.out.off hb.1 (fun _ _ ⟨_,h⟩=>h.elim))
  replace HBS:=h! (HBS.out.off hb.1 (fun _ _ ⟨_,h⟩=>h.elim))
  replace HW:=h! (HW.out.trans (hb.1.below HW.out.size (fun _ _ ⟨_,h⟩=>h.elim)))
  obtain ⟨lB1,cB1,fB1⟩:=B1.out
  obtain ⟨lB2,cB2,fB2⟩:=B2.out
  obtain ⟨lB3,cB3,fB3⟩:=B3.out
  obtain ⟨lBL,cBL,fBL⟩:=BL.out
  simp only [bG,Nat.reduceAdd]
  have h4:∃ (pv uv tv:Value) (S:Foot), ν 4 = .agg #[pv,uv,.int .i64 x.term.op,.int .i64 x.term.val,tv,.int .i64 x.term.n]/\Holds [] w7.heap.size wg S (fun W=>OBlock W S [pv,uv,.int .i64 x.term.op,.int .i64 x.term.val,tv,.int .i64 x.term.n] x):=hf 4 (by omega)
  obtain ⟨pv,uv,tv,SN,e4,k4⟩:=h4
  obtain ⟨⟨_,_,_,S1,S2,S3,e5,o1,o2,o3, -⟩, -⟩:=k4.now
  obtain ⟨⟨tv',e6,o4⟩, -⟩:=o3
  cases e5
  cases e6
  obtain ⟨pa,pcc,rfl⟩:=(o1.reads (R0:=PhiR) fun _ _ _ h=>h.reads).form
  obtain ⟨ua,ucc,rfl⟩:=(o2.reads (R0:=jH) fun _ _ _ h=>h.reads).form
  obtain ⟨tta,ttc,rfl⟩:=o4.ints.form
  simp only [e4]
  have K4:=h! k4
  clear e4 k4 hf o1 o2 o4 hb
  obtain ⟨g,cap,z1,z2,z3,z4,z5,z6,T1,T2,T3,hv,hgl,hSg,hC,hfr, -⟩:=HBS.out.now.open HST.out.1
  obtain ⟨rfl,rfl⟩ : gB=g/\nb=cap:=by injection hv with h1 h2 h3;injection h1 with h1;injection h1 with h1;exact ⟨h1,h3⟩
  obtain ⟨c0,c1,c2,c3,c4,c5, -, -, -, -, -, -⟩:=hC
  have HSG:=h! hSg
  have HNS:Hid (SN.off SB):=h! (fun k h1 h2=>by have:=HB4L.out k h2;have:=K4.out.base k h1;have:=HL7.out;omega)
  have HNQ:Hid (SQ.off SN):=h! (fun k h1 h2=>by have:=HQ4L.out k h1;have:=K4.out.base k h2;have:=HL7.out;omega)
  have HPUT:=h! (tG HBS.out.now HST.out.1 hv K4.out.now HNS.out)
  have HOFF:=h! (rO wg gB (j * 6) (.slice pa x.phis.length pcc) (.slice ua x.code.length ucc) (.int .i64 x.term.op) (.int .i64 x.term.val) (.slice tta x.term.to.length ttc) (.int .i64 x.term.n))
  unfold put6 at HPUT HOFF
  rw [HST.out.2] at HPUT
  clear hv hgl hSg
  go_upto_region 8 with (fail)
  clear c0 c1 c2 c3 c4 c5 hfr
  clear lB1 cB1 fB1 lB2 cB2 fB2 lB3 cB3 fB3 lBL cBL fBL
  generalize ((((((wg.setCell ⟨gB,j * 6,none⟩ (.slice pa x.phis.length pcc)).setCell ⟨gB,j * 6+1,none⟩ (.slice ua x.code.length ucc)).setCell ⟨gB,j * 6+2,none⟩ (.int .i64 x.term.op)).setCell ⟨gB,j * 6+3,none⟩ (.int .i64 x.term.val)).setCell ⟨gB,j * 6+4,none⟩ (.slice tta x.term.to.length ttc)).setCell ⟨gB,j * 6+5,none⟩ (.int .i64 x.term.n))=w8 at *
  replace B1:=h! (B1.out.off HOFF.out (fun h=>HBS.out.free _ HSG.out (by rw [<-h];simp)))
  replace B2:=h! (B2.out.off HOFF.out (fun h=>HBS.out.free _ HSG.out (by rw [<-h];simp)))
  replace B3:=h! (B3.out.off HOFF.out (fun h=>HBS.out.free _ HSG.out (by rw [<-h];simp)))
  replace HQ:=h! (HQ.out.off HOFF.out (fun k h1 h2=>HQB.out k h1 (by cases h2;exact HSG.out)))
  replace HW:=h! (HW.out.trans (HOFF.out.below HW.out.size (fun k _ hk=>by cases hk;have:=HBS.out.base _ HSG.out;omega)))
  have HBS2:Hid (Holds [w.heap.size,w.heap.size+1,w.heap.size+1+1] (w.heap.size+3) w8 (fun k=>SB k \/ SN k) (fun W=>gS W (fun k=>SB k \/ SN k) (.slice (some ⟨gB,0,none⟩) nb nb) (f.blocks.take (j+1) ++ List.replicate (nb - (j+1)) tE))) :=
   h! ((oJ OBlock.nice HPUT.out (fun k hk=>by rcases hk with hk | hk;exact HBS.out.base k hk;have:=K4.out.base k hk;have:=HL7.out;omega)).low (by simp))
  replace HQB:Hid (SQ.off (fun k=>SB k \/ SN k)):=h! (fun k h1 h2=>by rcases h2 with h2 | h2;exact HQB.out k h1 h2;exact HNQ.out k h1 h2)
  clear HBS HPUT HOFF K4 BL
  obtain ⟨lB1,cB1,fB1⟩:=B1.out
  obtain ⟨lB2,cB2,fB2⟩:=B2.out
  obtain ⟨lB3,cB3,fB3⟩:=B3.out
  go_wp2
  go_roundw
  case rel=>exact ⟨j+1,_,hlt,by go_num,HW.out,B1.out,B2.out,B3.out,HQ.out,HBS2.out,HQB.out⟩
  simp [intOf];omega
 have hjn:j=nb:=by omega
 have HBF:Hid (Holds [w.heap.size,w.heap.size+1,w.heap.size+1+1] (w.heap.size+3) w6 SB (fun W=>gS W SB (.slice (some ⟨gB,0,none⟩) nb nb) f.blocks)):=h! (by
  have h9:=HBS.out
  rw [hjn,dT,aJ (by have:=HNB.out;omega)] at h9
  simpa using h9)
 clear HBS hjn
 go_wp2
 clear lB1 cB1 fB1 lB2 cB2 fB2 lB3 cB3 fB3
 have hO_:=((((Only.set w6 (w.heap.size+1) 0 (.slice pa2 np pc2)).put 1 (.int .i64 ar)).put 2 (.int .i64 ce)).put 3 (.slice (some ⟨gB,0,none⟩) nb nb))
 replace B1:=h! (B1.out.only hO_ (by first | assumption | (simp;done) | omega))
 replace B3:=h! (B3.out.only hO_ (by first | assumption | (simp;done) | omega))
 replace HQ:=h! ((((HQ.out.other (p:=⟨w.heap.size+1,0,none⟩) (.slice pa2 np pc2) (by simp)).other (p:=⟨w.heap.size+1,1,none⟩) (.int .i64 ar) (by simp)).other (p:=⟨w.heap.size+1,2,none⟩) (.int .i64 ce) (by simp)).other (p:=⟨w.heap.size+1,3,none⟩) (.slice (some ⟨gB,0,none⟩) nb nb) (by simp))
 replace HBF:=h! ((((HBF.out.other (p:=⟨w.heap.size+1,0,none⟩) (.slice pa2 np pc2) (by simp)).other (p:=⟨w.heap.size+1,1,none⟩) (.int .i64 ar) (by simp)).other (p:=⟨w.heap.size+1,2,none⟩) (.int .i64 ce) (by simp)).other (p:=⟨w.heap.size+1,3,none⟩) (.slice (some ⟨gB,0,none⟩) nb nb) (by simp))
 replace HW:=h! (hO_.2.2 HW.out (by first | assumption | omega | (have:=HW.out.size;omega) | (simp;done) | (simp;omega)))
 replace B2:=h! (Box.to (A':=#[(.slice pa2 np pc2),(.int .i64 ar),(.int .i64 ce),(.slice (some ⟨gB,0,none⟩) nb nb)]) ((((B2.out.set 0 (.slice pa2 np pc2)).set 1 (.int .i64 ar)).set 2 (.int .i64 ce)).set 3 (.slice (some ⟨gB,0,none⟩) nb nb)) (by first | rfl | simp))
 clear hO_
 generalize ((((w6.setCell ⟨w.heap.size+1,0,none⟩ (.slice pa2 np pc2)).setCell ⟨w.heap.size+1,1,none⟩ (.int .i64 ar)).setCell ⟨w.heap.size+1,2,none⟩ (.int .i64 ce)).setCell ⟨w.heap.size+1,3,none⟩ (.slice (some ⟨gB,0,none⟩) nb nb))=w7 at *
 obtain ⟨lB1,cB1,fB1⟩:=B1.out
 obtain ⟨lB2,cB2,fB2⟩:=B2.out
 obtain ⟨lB3,cB3,fB3⟩:=B3.out
 refine bodyPost_ret (v:=.agg #[.slice pa2 np pc2,.int .i64 ar,.int .i64 ce,.slice (some ⟨gB,0,none⟩) nb nb]) (by simp [results,Tryz.results55,go_sem, *]) rfl ⟨_,fun q=>SQ q \/ SB q,rfl,⟨⟨_,_,SQ,SB,by rw [HAC.out.1,HAC.out.2],HQ.out.now,HBF.out.now,HQB.out,fun k h=>.inl h,fun k h=>.inr h⟩,fun k hk=>hk.elim (HQ.out.lt k) (HBF.out.lt k),H64.out.1,H64.out.2⟩,fun k hk => ?_,HW.out⟩
 rcases hk with hk | hk
 ·have:=HQ.out.base k hk;omega
 have:=HBF.out.base k hk;omega
theorem tL {α : Type} {R:World -> Foot -> List Value -> α -> Prop} (hR:Nice R) {P:Program} {w:World} {o:Oper} {a:Act} (s x:Operand) (t e:TypeId)
  (ho:o.op = .call { callee:=.builtin .append,args:=#[s,x],argTypes:=#[t,t] }) {z:Value} {size bytes:Nat} (he:Elem P t e z size bytes)
  {v:Value} {B:Nat} {ds:List Value} (hs:a.eval s=v) (hx:a.eval x = .slice (some ⟨B,0,none⟩) 1 1) {bs:List Nat} {base:Nat} {S Fn:Foot} {xs:List α} {y : α} {n:Nat} (hn:xs.length=n)
  (H:Holds bs base w S (fun W=>OSl R e size W S v xs)) (hB:Box w B ds.toArray) (hds:ds.length=size) (hel:R w Fn ds y) (hF:Fn.off S) (hFb:lV base Fn) (hbs:∀ b ∈ bs,b < base) (hbase:base <= w.heap.size)
  (h1:∀ u ∈ ds,u.oneCell' = true) (hlen:n+1 <= 17592186044416) (hbytes:(n+1) * bytes <= 140737488355328) {XF:Nat -> Foot} {i lim:Nat} (hFl:∀ k,Fn k -> lim <= k) (hl:lim <= w.heap.size) (hX:∀ k,S k -> XF i k) :
  ∃ u w'',(execOp a.eval o).run P w = .ok (.value u) w'' /\ (∃ S',Holds bs base w'' S' (fun W=>OSl R e size W S' u (xs ++ [y]))/\(∀ k,S' k -> S k \/ lim <= k) /\ ∃ g cap,u = .slice (some ⟨g,0,none⟩) (n+1) cap)/\Four.Step XF (fun _=>True) i w w'':=by
 obtain ⟨v',w',S',q0,q1,q2,q3,q4⟩:=yT hR s x t e ho he hs hx hn H hB hds hel hF hFb hbs hbase h1 hlen hbytes
 refine ⟨v',w',q0,⟨S',q1,fun k hk => ?_,q4⟩,q3.mono fun k _ hk=>hX k hk,fun h=>h⟩
 rcases q2 k hk with h | h | h
 ·exact .inl h
 ·exact .inr (hFl k h)
 ·exact .inr (by omega)
theorem OBlock.one {W:World} {S:Foot} {cs:List Value} {b:BlockD} (h:OBlock W S cs b):∀ u ∈ cs,u.oneCell' = true:=by
 obtain ⟨⟨v,u,t,S1,S2,S3,rfl,h1,h2,⟨⟨tv,rfl,h3⟩, -⟩, -⟩, -⟩:=h
 obtain ⟨a1,c1,rfl⟩:=(h1.reads (R0:=PhiR) fun _ _ _ h=>h.reads).form
 obtain ⟨a2,c2,rfl⟩:=(h2.reads (R0:=jH) fun _ _ _ h=>h.reads).form
 obtain ⟨a3,c3,rfl⟩:=h3.ints.form
 simp [Value.oneCell']
theorem Off.frozen {S:Foot} {W W' : World} (h:Off S W W') {b o:Nat} (hl:b < W.heap.size) (hn:¬ S b):W'.frozen? ⟨b,o,none⟩=W.frozen? ⟨b,o,none⟩:=World.frozen?_of_block (w:=W) (a:=⟨b,o,none⟩) (h.block b hl hn)
theorem oK {w:World} {ops:Array Oper} {rest:List Oper} {o:Oper} {a:Act} {Q:Exit -> Act -> World -> Prop} (hgd:o.guard=none) (s x:Operand)
  (ho:o.op = .call { callee:=.builtin .append,args:=#[s,x],argTypes:=#[22,22] }) {v:Value} {B:Nat} {y:Int} (hs:a.eval s=v) (hx:a.eval x = .slice (some ⟨B,0,none⟩) 1 1) {S:Foot} {xs:List Int} {n:Nat} (hn:xs.length=n)
  (H:eV w S v xs) (hB:Box w B #[.int .i64 y]) (hy:In64 y) (hlen:n+1 <= 100000)
  (hK:∀ g cap w',eV w' (Foot.one g) (.slice (some ⟨g,0,none⟩) (n+1) cap) (xs ++ [y]) -> (S g \/ w.heap.size <= g) -> Off S w w' -> wpList Tryz.prog ops Q rest (a.put o.dst (.slice (some ⟨g,0,none⟩) (n+1) cap)) w'):wpList Tryz.prog ops Q (o :: rest) a w:=by
 refine mO (P:=Tryz.prog) hgd s x 22 3 ho mL hs hx H.1 (rL (n:=1) (size:=1) (ds:=[.int .i64 y]) hB rfl (by omega)) (by intro u hu;simp at hu;subst hu;rfl) (by omega) (by omega) fun v' w' G' r1 r2 r3 => ?_
 have hO:eV w' G' v' (xs ++ [y]):=by
  refine ⟨?_,fun z hz => ?_⟩
  ·rw [aM,bF];exact r1
  rcases aK.1 hz with h | h
  ·exact H.2 z h
  simp at h;subst h;exact hy
 obtain ⟨g,cap,rfl,hg, -⟩:=hO.1.addr (by simp)
 have hl:(xs ++ [y]).length=n+1:=by simp [hn]
 rw [hl] at hO ⊢
 obtain ⟨k1,k2⟩:=hO.narrow (by omega)
 exact hK g cap w' k1 (r2 g k2) r3
end Go.Proofs.YtgmhnepmkaonaaaGreat
