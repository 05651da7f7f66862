/- What the claim needs,part 23. -/
import Derived.Test.YtblgdccoeecodaaQ321
import Derived.Test.YtblgdccoeecodaaQ322
namespace Go.Proofs.Ytblgdccoeecodaa
set_option linter.unusedSimpArgs false
set_option linter.unusedVariables false
open Go.RowKit
theorem set_step {α : Type} {xs:List α} {z x : α} {j:Nat} (hx:xs[j]? = some x):(xs.take j ++ List.replicate (xs.length - j) z)[j]? = some z/\(xs.take j ++ List.replicate (xs.length - j) z).set j x=xs.take (j+1) ++ List.replicate (xs.length - (j+1)) z:=by
 have hl:=(List.getElem?_eq_some_iff.1 hx).1
 have ht:(xs.take j).length=j:=by rw [List.length_take];omega
 obtain ⟨m,hm⟩ : ∃ m,xs.length - j=m+1:=⟨xs.length - j - 1,by omega⟩
 have hm2:xs.length - (j+1)=m:=by omega
 rw [hm,hm2,List.replicate_succ]
 constructor
 ·rw [List.getElem?_append_right (by omega),ht,Nat.sub_self];rfl
 ·rw [List.set_append_right _ _ (by omega),ht,Nat.sub_self,List.set_cons_zero,List.take_add_one,hx,Option.toList_some,List.append_assoc];rfl
def CopyR (f:FuncD) (w:World) (e:Ending) (w' : World):Prop := ∃ v S,e = .returned v/\OFunc w' S v f/\Fresh w.heap.size S/\Below w.heap.size w w'
set_option maxHeartbeats 25600000 in
set_option maxRecDepth 100000 in
theorem irCopy {w:World} {v:Value} {f:FuncD} (hv:FuncV w v f) (hsz:∀ x ∈ f.blocks,x.phis.length <= 100000/\x.code.length <= 100000) (hnb:f.blocks.length <= 100000):Calls Try.prog 53 #[v] w (CopyR f w):=by
 have HV:=Lib.hid hv
 obtain ⟨ap,cp,ab,cb,rfl,hp,ha64,hc64,hB⟩:=hv.form
 have H64:=Lib.hid (And.intro ha64 hc64)
 obtain ⟨a2,c2,bb,bo,hbe,hbc,hbm,hbl,hba,hbx⟩:=blocks_parts hB
 cases hbe
 obtain ⟨np,hnp⟩ : ∃ np,np=f.params.length:=⟨_,rfl⟩
 obtain ⟨ar,har⟩ : ∃ ar,ar=f.arrays:=⟨_,rfl⟩
 obtain ⟨ce,hce⟩ : ∃ ce,ce=f.cells:=⟨_,rfl⟩
 obtain ⟨nb,hnbd⟩ : ∃ nb,nb=f.blocks.length:=⟨_,rfl⟩
 rw [<-hnbd] at hbc hba hbl hnb
 rw [<-hnbd, <-hnp, <-har, <-hce]
 rw [<-hnp] at hp
 have HPR:=Lib.hid hp
 have HNP:=Lib.hid hnp
 have HNB:=Lib.hid hnbd
 have HBA:=Lib.hid hba
 have HBX:=Lib.hid hbx
 have HAC:Hid (ar=f.arrays/\ce=f.cells):=Lib.hid ⟨har,hce⟩
 have HSZ:=Lib.hid hsz
 clear hp hB hv hbx hnp hnbd hba har hce ha64 hc64 hsz HV
 go_enter Try.func53,Try.ntmps53
 go_upto_region 2 with (fail)
 have B1:Hid (Box (((w.alloc (.cells #[.slice ap np cp,.int .i64 ar,.int .i64 ce,.slice ab nb cb] 25)).alloc (.cells #[.slice none 0 0,.int .i64 0,.int .i64 0,.slice none 0 0] 25)).alloc (.cells #[.slice ap np cp,.int .i64 ar,.int .i64 ce,.slice ab nb cb] 25)) (w.heap.size) #[.slice ap np cp,.int .i64 ar,.int .i64 ce,.slice ab nb cb]):=Lib.hid (by simpa using (((Box.new w #[.slice ap np cp,.int .i64 ar,.int .i64 ce,.slice ab nb cb] 25).alloc _).alloc _))
 have B2:Hid (Box (((w.alloc (.cells #[.slice ap np cp,.int .i64 ar,.int .i64 ce,.slice ab nb cb] 25)).alloc (.cells #[.slice none 0 0,.int .i64 0,.int .i64 0,.slice none 0 0] 25)).alloc (.cells #[.slice ap np cp,.int .i64 ar,.int .i64 ce,.slice ab nb cb] 25)) (w.heap.size+1) #[.slice none 0 0,.int .i64 0,.int .i64 0,.slice none 0 0]):=Lib.hid (by simpa using ((Box.new (w.alloc (.cells #[.slice ap np cp,.int .i64 ar,.int .i64 ce,.slice ab nb cb] 25)) #[.slice none 0 0,.int .i64 0,.int .i64 0,.slice none 0 0] 25).alloc _))
 have B3:Hid (Box (((w.alloc (.cells #[.slice ap np cp,.int .i64 ar,.int .i64 ce,.slice ab nb cb] 25)).alloc (.cells #[.slice none 0 0,.int .i64 0,.int .i64 0,.slice none 0 0] 25)).alloc (.cells #[.slice ap np cp,.int .i64 ar,.int .i64 ce,.slice ab nb cb] 25)) (w.heap.size+1+1) #[.slice ap np cp,.int .i64 ar,.int .i64 ce,.slice ab nb cb]):=Lib.hid (by simpa using (Box.new ((w.alloc (.cells #[.slice ap np cp,.int .i64 ar,.int .i64 ce,.slice ab nb cb] 25)).alloc (.cells #[.slice none 0 0,.int .i64 0,.int .i64 0,.slice none 0 0] 25)) #[.slice ap np cp,.int .i64 ar,.int .i64 ce,.slice ab nb cb] 25))
 have HW:Hid (Below w.heap.size w (((w.alloc (.cells #[.slice ap np cp,.int .i64 ar,.int .i64 ce,.slice ab nb cb] 25)).alloc (.cells #[.slice none 0 0,.int .i64 0,.int .i64 0,.slice none 0 0] 25)).alloc (.cells #[.slice ap np cp,.int .i64 ar,.int .i64 ce,.slice ab nb cb] 25))):=Lib.hid ((((Below.refl _ _).alloc (Nat.le_refl _) _).alloc (by simp) _).alloc (by simp;omega) _)
 generalize (((w.alloc (.cells #[.slice ap np cp,.int .i64 ar,.int .i64 ce,.slice ab nb cb] 25)).alloc (.cells #[.slice none 0 0,.int .i64 0,.int .i64 0,.slice none 0 0] 25)).alloc (.cells #[.slice ap np cp,.int .i64 ar,.int .i64 ce,.slice ab nb cb] 25))=wv at *
 obtain ⟨lB1,cB1,fB1⟩:=B1.out
 obtain ⟨lB2,cB2,fB2⟩:=B2.out
 obtain ⟨lB3,cB3,fB3⟩:=B3.out
 go_wp2_with fail
 refine (cloneI (HPR.out.below HW.out)).mono ?_
 rintro e w2 ⟨pv2,SQ,rfl,hI,hF,hb⟩
 obtain ⟨pa2,pc2,rfl⟩:=hI.ints.form
 rw [<-HNP.out] at hI ⊢
 have HQ:Hid (Holds [w.heap.size,w.heap.size+1,w.heap.size+1+1] (w.heap.size+3) w2 SQ (fun W=>OInts W SQ (.slice pa2 np pc2) f.params)):=Lib.hid (((holds_ints hI hF).from (by have:=B3.out.lt;omega)).low (by simp))
 clear hI hF
 clear lB1 cB1 fB1 lB2 cB2 fB2 lB3 cB3 fB3
 replace B1:=Lib.hid (B1.out.later hb)
 replace B2:=Lib.hid (B2.out.later hb)
 replace B3:=Lib.hid (B3.out.later hb)
 replace HW:=Lib.hid (HW.out.trans (hb.mono HW.out.size))
 clear hb
 obtain ⟨lB1,cB1,fB1⟩:=B1.out
 obtain ⟨lB2,cB2,fB2⟩:=B2.out
 obtain ⟨lB3,cB3,fB3⟩:=B3.out

 go_upto_region 3 with (fail)
 have B1_:Box (w2.setCell ⟨w.heap.size+1+1,0,none⟩ (.slice pa2 np pc2)) (w.heap.size) #[.slice ap np cp,.int .i64 ar,.int .i64 ce,.slice ab nb cb]:=by simpa using (B1.out.other (p:=⟨w.heap.size+1+1,0,none⟩) (.slice pa2 np pc2) (by first | assumption | (simp;done) | omega | (dsimp only;omega)))
 have B2_:Box (w2.setCell ⟨w.heap.size+1+1,0,none⟩ (.slice pa2 np pc2)) (w.heap.size+1) #[.slice none 0 0,.int .i64 0,.int .i64 0,.slice none 0 0]:=by simpa using (B2.out.other (p:=⟨w.heap.size+1+1,0,none⟩) (.slice pa2 np pc2) (by first | assumption | (simp;done) | omega | (dsimp only;omega)))
 have B3_:Box (w2.setCell ⟨w.heap.size+1+1,0,none⟩ (.slice pa2 np pc2)) (w.heap.size+1+1) #[(.slice pa2 np pc2),.int .i64 ar,.int .i64 ce,.slice ab nb cb]:=by simpa using (B3.out.set 0 (.slice pa2 np pc2))
 have HQ_:=(HQ.out.other (p:=⟨w.heap.size+1+1,0,none⟩) (.slice pa2 np pc2) (by simp))
 have HW_:Below w.heap.size w (w2.setCell ⟨w.heap.size+1+1,0,none⟩ (.slice pa2 np pc2)):=(HW.out.setCell (p:=⟨w.heap.size+1+1,0,none⟩) (by first | assumption | omega | (dsimp only;omega) | (have:=HW.out.size;omega) | (simp;done) | (simp;omega)) (.slice pa2 np pc2))
 clear lB1 cB1 fB1 lB2 cB2 fB2 lB3 cB3 fB3
 clear B1 B2 B3 HQ HW
 generalize (w2.setCell ⟨w.heap.size+1+1,0,none⟩ (.slice pa2 np pc2))=w3 at *
 have B1:=Lib.hid B1_
 clear B1_
 have B2:=Lib.hid B2_
 clear B2_
 have B3:=Lib.hid B3_
 clear B3_
 have HQ:=Lib.hid HQ_
 clear HQ_
 have HW:=Lib.hid HW_
 clear HW_
 obtain ⟨lB1,cB1,fB1⟩:=B1.out
 obtain ⟨lB2,cB2,fB2⟩:=B2.out
 obtain ⟨lB3,cB3,fB3⟩:=B3.out
 have hl3:w.heap.size+3 <= w3.heap.size:=by omega
 have HL3:=Lib.hid hl3
 have HQ3:=Lib.hid HQ.out.lt
 clear hl3
 go_upto_region 4 with (at_make;refine wpList_make_blocks rfl _ _ rfl nb rfl rfl rfl rfl hnb ?_;intro w4 hmk hgr;have hB3:=B3.out.later hgr;obtain ⟨lx,cx,fx⟩:=hB3)
 clear lx cx fx
 have HMK:Hid (Holds [w.heap.size,w.heap.size+1,w.heap.size+1+1] (w.heap.size+3) w4 (Foot.one w3.heap.size) (fun W=>OBlocks W (Foot.one w3.heap.size) (.slice (some ⟨w3.heap.size,0,none⟩) nb nb) (List.replicate nb zeroB))):=Lib.hid ((holds_sl OBlock.nice hmk (fun k hk=>by cases hk;exact HL3.out)).low (by simp))
 clear hmk
 clear lB1 cB1 fB1 lB2 cB2 fB2 lB3 cB3 fB3
 replace B1:=Lib.hid (B1.out.later hgr)
 replace B2:=Lib.hid (B2.out.later hgr)
 replace B3:=Lib.hid (B3.out.later hgr)
 replace HQ:=Lib.hid (HQ.out.later hgr)
 replace HW:=Lib.hid (HW.out.trans (hgr.mono HW.out.size))
 clear hgr
 obtain ⟨lB1,cB1,fB1⟩:=B1.out
 obtain ⟨lB2,cB2,fB2⟩:=B2.out
 obtain ⟨lB3,cB3,fB3⟩:=B3.out


 have B1_:Box (w4.setCell ⟨w.heap.size+1+1,3,none⟩ (.slice (some ⟨w3.heap.size,0,none⟩) nb nb)) (w.heap.size) #[.slice ap np cp,.int .i64 ar,.int .i64 ce,.slice ab nb cb]:=by simpa using (B1.out.other (p:=⟨w.heap.size+1+1,3,none⟩) (.slice (some ⟨w3.heap.size,0,none⟩) nb nb) (by first | assumption | (simp;done) | omega | (dsimp only;omega)))
 have B2_:Box (w4.setCell ⟨w.heap.size+1+1,3,none⟩ (.slice (some ⟨w3.heap.size,0,none⟩) nb nb)) (w.heap.size+1) #[.slice none 0 0,.int .i64 0,.int .i64 0,.slice none 0 0]:=by simpa using (B2.out.other (p:=⟨w.heap.size+1+1,3,none⟩) (.slice (some ⟨w3.heap.size,0,none⟩) nb nb) (by first | assumption | (simp;done) | omega | (dsimp only;omega)))
 have B3_:Box (w4.setCell ⟨w.heap.size+1+1,3,none⟩ (.slice (some ⟨w3.heap.size,0,none⟩) nb nb)) (w.heap.size+1+1) #[(.slice pa2 np pc2),.int .i64 ar,.int .i64 ce,(.slice (some ⟨w3.heap.size,0,none⟩) nb nb)]:=by simpa using (B3.out.set 3 (.slice (some ⟨w3.heap.size,0,none⟩) nb nb))
 have HQ_:=(HQ.out.other (p:=⟨w.heap.size+1+1,3,none⟩) (.slice (some ⟨w3.heap.size,0,none⟩) nb nb) (by simp))
 have HMK_:=(HMK.out.other (p:=⟨w.heap.size+1+1,3,none⟩) (.slice (some ⟨w3.heap.size,0,none⟩) nb nb) (by simp))
 have HW_:Below w.heap.size w (w4.setCell ⟨w.heap.size+1+1,3,none⟩ (.slice (some ⟨w3.heap.size,0,none⟩) nb nb)):=(HW.out.setCell (p:=⟨w.heap.size+1+1,3,none⟩) (by first | assumption | omega | (dsimp only;omega) | (have:=HW.out.size;omega) | (simp;done) | (simp;omega)) (.slice (some ⟨w3.heap.size,0,none⟩) nb nb))
 clear lB1 cB1 fB1 lB2 cB2 fB2 lB3 cB3 fB3
 clear B1 B2 B3 HQ HMK HW
 generalize (w4.setCell ⟨w.heap.size+1+1,3,none⟩ (.slice (some ⟨w3.heap.size,0,none⟩) nb nb))=w5 at *
 have B1:=Lib.hid B1_
 clear B1_
 have B2:=Lib.hid B2_
 clear B2_
 have B3:=Lib.hid B3_
 clear B3_
 have HQ:=Lib.hid HQ_
 clear HQ_
 have HMK:=Lib.hid HMK_
 clear HMK_
 have HW:=Lib.hid HW_
 clear HW_
 obtain ⟨lB1,cB1,fB1⟩:=B1.out
 obtain ⟨lB2,cB2,fB2⟩:=B2.out
 obtain ⟨lB3,cB3,fB3⟩:=B3.out
 obtain ⟨gB,hgB⟩ : ∃ g,g=w3.heap.size:=⟨_,rfl⟩
 rw [<-hgB] at HMK B3 HL3 HQ3
 have HQM:Hid (SQ.off (Foot.one gB)):=Lib.hid (fun k h1 h2=>by cases h2;have:=HQ3.out _ h1;omega)
 simp only [<-hgB]
 clear hgB HQ3
 go_wp2_with fail
 go_loopw [19] (fun i wr => ∃ (j:Nat) (SB:Foot),j <= nb/\i = .int .i64 j/\Below w.heap.size w wr/\Box wr w.heap.size #[.slice ap np cp,.int .i64 ar,.int .i64 ce,.slice ab nb cb]/\Box wr (w.heap.size+1) #[.slice none 0 0,.int .i64 0,.int .i64 0,.slice none 0 0]/\Box wr (w.heap.size+1+1) #[.slice pa2 np pc2,.int .i64 ar,.int .i64 ce,.slice (some ⟨gB,0,none⟩) nb nb] /\
   Holds [w.heap.size,w.heap.size+1,w.heap.size+1+1] (w.heap.size+3) wr SQ (fun W=>OInts W SQ (.slice pa2 np pc2) f.params)/\Holds [w.heap.size,w.heap.size+1,w.heap.size+1+1] (w.heap.size+3) wr SB (fun W=>OBlocks W SB (.slice (some ⟨gB,0,none⟩) nb nb) (f.blocks.take j ++ List.replicate (nb - j) zeroB))/\SQ.off SB) (fun i _=>nb - (intOf i).toNat)
 case atStart=>exact ⟨0,Foot.one gB,Nat.zero_le _,rfl,HW.out,B1.out,B2.out,B3.out,HQ.out,by simpa using HMK.out,HQM.out⟩
 case round =>
  obtain ⟨j,SB,hj,rfl,hW,h1,h2,h3,h4,h5,h6⟩:=hrel
  clear lB1 cB1 fB1 lB2 cB2 fB2 lB3 cB3 fB3
  replace HW:=Lib.hid hW
  replace B1:=Lib.hid h1
  replace B2:=Lib.hid h2
  replace B3:=Lib.hid h3
  replace HQ:=Lib.hid h4
  have HBS:=Lib.hid h5
  have HQB:=Lib.hid h6
  clear hW h1 h2 h3 h4 h5 h6 HMK HQM
  generalize wr=w6 at *


  obtain ⟨lB1,cB1,fB1⟩:=B1.out
  obtain ⟨lB2,cB2,fB2⟩:=B2.out
  obtain ⟨lB3,cB3,fB3⟩:=B3.out
  by_cases hlt:j < nb
  ·obtain ⟨rfl,hbp⟩:=HBA.out (by omega)



   obtain ⟨x,hxm⟩ : ∃ x,f.blocks[j]? = some x:=⟨_,List.getElem?_eq_getElem (by have:=HNB.out;omega)⟩
   obtain ⟨api,aii,ati,cpi,cii,cti,hC⟩:=HBX.out j x hxm
   have HBV:=Lib.hid hC.blockV
   obtain ⟨k0,k1,k2,k3,k4,k5, -, -, -, -, -, -⟩:=hC.below HW.out hbp
   have HSX:=Lib.hid (HSZ.out x (List.mem_of_getElem? hxm))
   have HST:=Lib.hid (set_step (z:=zeroB) hxm)
   rw [<-HNB.out] at HST
   clear hxm hC
   have HB4L:Hid (∀ k,SB k -> k < w6.heap.size):=Lib.hid HBS.out.lt
   have HQ4L:Hid (∀ k,SQ k -> k < w6.heap.size):=Lib.hid HQ.out.lt
   have hl6:w.heap.size+3 <= w6.heap.size:=by omega
   go_upto_region 7 with (fail)
   have nBLB1:w6.heap.size ≠ w.heap.size:=fun e=>by have:=lB1;omega
   have nB1BL:w.heap.size ≠ w6.heap.size:=fun e=>nBLB1 e.symm
   have nBLB2:w6.heap.size ≠ w.heap.size+1:=fun e=>by have:=lB2;omega
   have nB2BL:w.heap.size+1 ≠ w6.heap.size:=fun e=>nBLB2 e.symm
   have nBLB3:w6.heap.size ≠ w.heap.size+1+1:=fun e=>by have:=lB3;omega
   have nB3BL:w.heap.size+1+1 ≠ w6.heap.size:=fun e=>nBLB3 e.symm
   have B1_:Box (w6.alloc (.cells #[.slice api x.phis.length cpi,.slice aii x.code.length cii,.int .i64 x.term.op,.int .i64 x.term.val,.slice ati x.term.to.length cti,.int .i64 x.term.n] 56)) (w.heap.size) #[.slice ap np cp,.int .i64 ar,.int .i64 ce,.slice (some ⟨bb,bo,none⟩) nb cb]:=by simpa using (B1.out.alloc _)
   have B2_:Box (w6.alloc (.cells #[.slice api x.phis.length cpi,.slice aii x.code.length cii,.int .i64 x.term.op,.int .i64 x.term.val,.slice ati x.term.to.length cti,.int .i64 x.term.n] 56)) (w.heap.size+1) #[.slice none 0 0,.int .i64 0,.int .i64 0,.slice none 0 0]:=by simpa using (B2.out.alloc _)
   have B3_:Box (w6.alloc (.cells #[.slice api x.phis.length cpi,.slice aii x.code.length cii,.int .i64 x.term.op,.int .i64 x.term.val,.slice ati x.term.to.length cti,.int .i64 x.term.n] 56)) (w.heap.size+1+1) #[.slice pa2 np pc2,.int .i64 ar,.int .i64 ce,.slice (some ⟨gB,0,none⟩) nb nb]:=by simpa using (B3.out.alloc _)
   have BL_:Box (w6.alloc (.cells #[.slice api x.phis.length cpi,.slice aii x.code.length cii,.int .i64 x.term.op,.int .i64 x.term.val,.slice ati x.term.to.length cti,.int .i64 x.term.n] 56)) (w6.heap.size) #[.slice api x.phis.length cpi,.slice aii x.code.length cii,.int .i64 x.term.op,.int .i64 x.term.val,.slice ati x.term.to.length cti,.int .i64 x.term.n]:=by simpa using (Box.new w6 #[.slice api x.phis.length cpi,.slice aii x.code.length cii,.int .i64 x.term.op,.int .i64 x.term.val,.slice ati x.term.to.length cti,.int .i64 x.term.n] 56)
   have HQ_:=(HQ.out.alloc (.cells #[.slice api x.phis.length cpi,.slice aii x.code.length cii,.int .i64 x.term.op,.int .i64 x.term.val,.slice ati x.term.to.length cti,.int .i64 x.term.n] 56))
   have HBS_:=(HBS.out.alloc (.cells #[.slice api x.phis.length cpi,.slice aii x.code.length cii,.int .i64 x.term.op,.int .i64 x.term.val,.slice ati x.term.to.length cti,.int .i64 x.term.n] 56))
   have HW_:Below w.heap.size w (w6.alloc (.cells #[.slice api x.phis.length cpi,.slice aii x.code.length cii,.int .i64 x.term.op,.int .i64 x.term.val,.slice ati x.term.to.length cti,.int .i64 x.term.n] 56)):=(HW.out.alloc (by first | exact Nat.le_refl _ | exact HW.out.size | (simp only [World.size_alloc,World.size_setCell];have:=HW.out.size;omega)) _)
   clear lB1 cB1 fB1 lB2 cB2 fB2 lB3 cB3 fB3
   clear B1 B2 B3 HQ HBS HW
   generalize (w6.alloc (.cells #[.slice api x.phis.length cpi,.slice aii x.code.length cii,.int .i64 x.term.op,.int .i64 x.term.val,.slice ati x.term.to.length cti,.int .i64 x.term.n] 56))=w7 at *
   have B1:=Lib.hid B1_
   clear B1_
   have B2:=Lib.hid B2_
   clear B2_
   have B3:=Lib.hid B3_
   clear B3_
   have BL:=Lib.hid BL_
   clear BL_
   have HQ:=Lib.hid HQ_
   clear HQ_
   have HBS:=Lib.hid HBS_
   clear HBS_
   have HW:=Lib.hid HW_
   clear HW_
   obtain ⟨lB1,cB1,fB1⟩:=B1.out
   obtain ⟨lB2,cB2,fB2⟩:=B2.out
   obtain ⟨lB3,cB3,fB3⟩:=B3.out
   obtain ⟨lBL,cBL,fBL⟩:=BL.out
   clear k0 k1 k2 k3 k4 k5
   have HL7:Hid (w6.heap.size <= w7.heap.size):=Lib.hid (by have:=BL.out.lt;omega)
   refine Four.wp_region_grow (XF:=(fun _=>Foot.none)) (I:=(fun _=>True)) 5 (fun ν kz=>match kz with | 4=>.holds (fun u w' => ∃ (pv uv tv:Value) (S:Foot),u = .agg #[pv,uv,.int .i64 x.term.op,.int .i64 x.term.val,tv,.int .i64 x.term.n]/\Holds [] w7.heap.size w' S (fun W=>OBlock W S [pv,uv,.int .i64 x.term.op,.int .i64 x.term.val,tv,.int .i64 x.term.n] x)) | _=>.plain) (by kernel_rfl) (by kernel_rfl) ?_ ?_ (fun _ _ h=>h.elim) (fun _ _ _ _=>trivial) trivial ?_ (fun ν => ?_)
   ·(intro ν k;(try dsimp only);split <;> first | exact True.intro | (intro u w1 w2 hu hb;(obtain ⟨pv,uv,tv,S,h1,h2⟩:=hu;exact ⟨pv,uv,tv,S,h1,h2.off hb (fun _ _ ⟨_,_,h⟩=>h.elim)⟩)))
   ·(intro ν ν' k h;first | rfl | ((try dsimp only);split <;> first | rfl))
   ·(intro ν j B mk A h;(try dsimp only at h);split at h <;> first | (cases h;exact Nat.le_refl _) | cases h)
   simp only [List.take_succ_cons,List.take_zero,List.drop_succ_cons,List.drop_zero]
   iterate 4 (refine Four.Grow.val (v := ?_) rfl rfl (fun wg hbg hdg => ?_) ?_;rotate_left;(focus ((obtain ⟨lg0,cg0,fg0⟩:=B1.out.off hbg.off (fun ⟨_,h⟩=>h.elim));(obtain ⟨lg1,cg1,fg1⟩:=B2.out.off hbg.off (fun ⟨_,h⟩=>h.elim));(obtain ⟨lg2,cg2,fg2⟩:=B3.out.off hbg.off (fun ⟨_,h⟩=>h.elim));(obtain ⟨lg3,cg3,fg3⟩:=BL.out.off hbg.off (fun ⟨_,h⟩=>h.elim));clear hbg hdg;first | (go_simp;done) | (go_simp;with_reducible rfl)));simp only [Act.put,List.setIfInBounds_toArray,List.set_cons_zero,List.set_cons_succ])
   refine Four.Grow.call (f := ?_) (args := ?_) rfl (fun wg => ?_) (fun wg hbg hdg => ?_) ?_
   rotate_left 2
   focus (first | (go_simp;done) | (go_simp;refine And.intro ?_ ?_ <;> with_reducible rfl) | (go_simp;with_reducible rfl))
   focus (exact (copyBlock (HBV.out.below (HW.out.trans ((pre0 hbg).mono HW.out.size))) HSX.out.1 HSX.out.2).mono (fun e w2 ⟨pv,uv,tv,S,he,hO,hF,hw⟩=>⟨_,he,⟨pv,uv,tv,S,rfl,(holds_nice OBlock.nice hO hF).from hbg.1.size⟩,hw⟩))
   simp only [Act.put,Known.val,List.setIfInBounds_toArray,List.set_cons_zero,List.set_cons_succ]
   intro wg hb hf hap
   clear hap
   clear lB1 cB1 fB1 lB2 cB2 fB2 lB3 cB3 fB3 lBL cBL fBL
   replace B1:=Lib.hid (B1.out.off hb.1 (fun ⟨_,h⟩=>h.elim))
   replace B2:=Lib.hid (B2.out.off hb.1 (fun ⟨_,h⟩=>h.elim))
   replace B3:=Lib.hid (B3.out.off hb.1 (fun ⟨_,h⟩=>h.elim))
   replace BL:=Lib.hid (BL.out.off hb.1 (fun ⟨_,h⟩=>h.elim))
   replace HQ:=Lib.hid (HQ.out.off hb.1 (fun _ _ ⟨_,h⟩=>h.elim))
   replace HBS:=Lib.hid (HBS.out.off hb.1 (fun _ _ ⟨_,h⟩=>h.elim))
   replace HW:=Lib.hid (HW.out.trans (hb.1.below HW.out.size (fun _ _ ⟨_,h⟩=>h.elim)))
   obtain ⟨lB1,cB1,fB1⟩:=B1.out
   obtain ⟨lB2,cB2,fB2⟩:=B2.out
   obtain ⟨lB3,cB3,fB3⟩:=B3.out
   obtain ⟨lBL,cBL,fBL⟩:=BL.out
   simp only [Nat.zero_add,Nat.reduceAdd]
   have h4:∃ (pv uv tv:Value) (S:Foot), ν 4 = .agg #[pv,uv,.int .i64 x.term.op,.int .i64 x.term.val,tv,.int .i64 x.term.n]/\Holds [] w7.heap.size wg S (fun W=>OBlock W S [pv,uv,.int .i64 x.term.op,.int .i64 x.term.val,tv,.int .i64 x.term.n] x):=hf 4 (by omega)
   obtain ⟨pv,uv,tv,SN,e4,k4⟩:=h4
   obtain ⟨⟨_,_,_,S1,S2,S3,e5,o1,o2,o3, -⟩, -⟩:=k4.now
   obtain ⟨⟨tv',e6,o4⟩, -⟩:=o3
   cases e5
   cases e6
   obtain ⟨pa,pcc,rfl⟩:=(o1.reads (R0:=PhiR) fun _ _ _ h=>h.reads).form
   obtain ⟨ua,ucc,rfl⟩:=(o2.reads (R0:=InstrR) fun _ _ _ h=>h.reads).form
   obtain ⟨tta,ttc,rfl⟩:=o4.ints.form
   simp only [e4]
   have K4:=Lib.hid k4
   clear e4 k4 hf o1 o2 o4 hb
   obtain ⟨g,cap,z1,z2,z3,z4,z5,z6,T1,T2,T3,hv,hgl,hSg,hC,hfr, -⟩:=HBS.out.now.open HST.out.1
   obtain ⟨rfl,rfl⟩ : gB=g/\nb=cap:=by injection hv with h1 h2 h3;injection h1 with h1;injection h1 with h1;exact ⟨h1,h3⟩
   obtain ⟨c0,c1,c2,c3,c4,c5, -, -, -, -, -, -⟩:=hC
   have HSG:=Lib.hid hSg
   have HNS:Hid (SN.off SB):=Lib.hid (fun k h1 h2=>by have:=HB4L.out k h2;have:=K4.out.base k h1;have:=HL7.out;omega)
   have HNQ:Hid (SQ.off SN):=Lib.hid (fun k h1 h2=>by have:=HQ4L.out k h1;have:=K4.out.base k h2;have:=HL7.out;omega)
   have HPUT:=Lib.hid (oblocks_put6 HBS.out.now HST.out.1 hv K4.out.now HNS.out)
   have HOFF:=Lib.hid (put6_off wg gB (j * 6) (.slice pa x.phis.length pcc) (.slice ua x.code.length ucc) (.int .i64 x.term.op) (.int .i64 x.term.val) (.slice tta x.term.to.length ttc) (.int .i64 x.term.n))
   unfold put6 at HPUT HOFF
   rw [HST.out.2] at HPUT
   clear hv hgl hSg
   go_upto_region 8 with (fail)
   clear c0 c1 c2 c3 c4 c5 hfr
   clear lB1 cB1 fB1 lB2 cB2 fB2 lB3 cB3 fB3 lBL cBL fBL
   generalize ((((((wg.setCell ⟨gB,j * 6,none⟩ (.slice pa x.phis.length pcc)).setCell ⟨gB,j * 6+1,none⟩ (.slice ua x.code.length ucc)).setCell ⟨gB,j * 6+2,none⟩ (.int .i64 x.term.op)).setCell ⟨gB,j * 6+3,none⟩ (.int .i64 x.term.val)).setCell ⟨gB,j * 6+4,none⟩ (.slice tta x.term.to.length ttc)).setCell ⟨gB,j * 6+5,none⟩ (.int .i64 x.term.n))=w8 at *
   replace B1:=Lib.hid (B1.out.off HOFF.out (fun h=>HBS.out.free _ HSG.out (by rw [<-h];simp)))
   replace B2:=Lib.hid (B2.out.off HOFF.out (fun h=>HBS.out.free _ HSG.out (by rw [<-h];simp)))
   replace B3:=Lib.hid (B3.out.off HOFF.out (fun h=>HBS.out.free _ HSG.out (by rw [<-h];simp)))
   replace HQ:=Lib.hid (HQ.out.off HOFF.out (fun k h1 h2=>HQB.out k h1 (by cases h2;exact HSG.out)))
   replace HW:=Lib.hid (HW.out.trans (HOFF.out.below HW.out.size (fun k _ hk=>by cases hk;have:=HBS.out.base _ HSG.out;omega)))
   have HBS2:Hid (Holds [w.heap.size,w.heap.size+1,w.heap.size+1+1] (w.heap.size+3) w8 (fun k=>SB k \/ SN k) (fun W=>OBlocks W (fun k=>SB k \/ SN k) (.slice (some ⟨gB,0,none⟩) nb nb) (f.blocks.take (j+1) ++ List.replicate (nb - (j+1)) zeroB))) :=
    Lib.hid ((holds_sl OBlock.nice HPUT.out (fun k hk=>by rcases hk with hk | hk;exact HBS.out.base k hk;have:=K4.out.base k hk;have:=HL7.out;omega)).low (by simp))
   replace HQB:Hid (SQ.off (fun k=>SB k \/ SN k)):=Lib.hid (fun k h1 h2=>by rcases h2 with h2 | h2;exact HQB.out k h1 h2;exact HNQ.out k h1 h2)
   clear HBS HPUT HOFF K4 BL



   obtain ⟨lB1,cB1,fB1⟩:=B1.out
   obtain ⟨lB2,cB2,fB2⟩:=B2.out
   obtain ⟨lB3,cB3,fB3⟩:=B3.out
   go_wp2
   go_roundw
   case rel=>exact ⟨j+1,_,hlt,by go_num,HW.out,B1.out,B2.out,B3.out,HQ.out,HBS2.out,HQB.out⟩
   case measure=>simp [intOf];omega
  ·have hjn:j=nb:=by omega
   have HBF:Hid (Holds [w.heap.size,w.heap.size+1,w.heap.size+1+1] (w.heap.size+3) w6 SB (fun W=>OBlocks W SB (.slice (some ⟨gB,0,none⟩) nb nb) f.blocks)):=Lib.hid (by
    have h9:=HBS.out
    rw [hjn,Nat.sub_self,List.take_of_length_le (by have:=HNB.out;omega)] at h9
    simpa using h9)
   clear HBS hjn




   go_wp2
   have B1_:Box ((((w6.setCell ⟨w.heap.size+1,0,none⟩ (.slice pa2 np pc2)).setCell ⟨w.heap.size+1,1,none⟩ (.int .i64 ar)).setCell ⟨w.heap.size+1,2,none⟩ (.int .i64 ce)).setCell ⟨w.heap.size+1,3,none⟩ (.slice (some ⟨gB,0,none⟩) nb nb)) (w.heap.size) #[.slice ap np cp,.int .i64 ar,.int .i64 ce,.slice ab nb cb]:=by simpa using ((((B1.out.other (p:=⟨w.heap.size+1,0,none⟩) (.slice pa2 np pc2) (by first | assumption | (simp;done) | omega | (dsimp only;omega))).other (p:=⟨w.heap.size+1,1,none⟩) (.int .i64 ar) (by first | assumption | (simp;done) | omega | (dsimp only;omega))).other (p:=⟨w.heap.size+1,2,none⟩) (.int .i64 ce) (by first | assumption | (simp;done) | omega | (dsimp only;omega))).other (p:=⟨w.heap.size+1,3,none⟩) (.slice (some ⟨gB,0,none⟩) nb nb) (by first | assumption | (simp;done) | omega | (dsimp only;omega)))
   have B2_:Box ((((w6.setCell ⟨w.heap.size+1,0,none⟩ (.slice pa2 np pc2)).setCell ⟨w.heap.size+1,1,none⟩ (.int .i64 ar)).setCell ⟨w.heap.size+1,2,none⟩ (.int .i64 ce)).setCell ⟨w.heap.size+1,3,none⟩ (.slice (some ⟨gB,0,none⟩) nb nb)) (w.heap.size+1) #[(.slice pa2 np pc2),(.int .i64 ar),(.int .i64 ce),(.slice (some ⟨gB,0,none⟩) nb nb)]:=by simpa using ((((B2.out.set 0 (.slice pa2 np pc2)).set 1 (.int .i64 ar)).set 2 (.int .i64 ce)).set 3 (.slice (some ⟨gB,0,none⟩) nb nb))
   have B3_:Box ((((w6.setCell ⟨w.heap.size+1,0,none⟩ (.slice pa2 np pc2)).setCell ⟨w.heap.size+1,1,none⟩ (.int .i64 ar)).setCell ⟨w.heap.size+1,2,none⟩ (.int .i64 ce)).setCell ⟨w.heap.size+1,3,none⟩ (.slice (some ⟨gB,0,none⟩) nb nb)) (w.heap.size+1+1) #[.slice pa2 np pc2,.int .i64 ar,.int .i64 ce,.slice (some ⟨gB,0,none⟩) nb nb]:=by simpa using ((((B3.out.other (p:=⟨w.heap.size+1,0,none⟩) (.slice pa2 np pc2) (by first | assumption | (simp;done) | omega | (dsimp only;omega))).other (p:=⟨w.heap.size+1,1,none⟩) (.int .i64 ar) (by first | assumption | (simp;done) | omega | (dsimp only;omega))).other (p:=⟨w.heap.size+1,2,none⟩) (.int .i64 ce) (by first | assumption | (simp;done) | omega | (dsimp only;omega))).other (p:=⟨w.heap.size+1,3,none⟩) (.slice (some ⟨gB,0,none⟩) nb nb) (by first | assumption | (simp;done) | omega | (dsimp only;omega)))
   have HQ_:=((((HQ.out.other (p:=⟨w.heap.size+1,0,none⟩) (.slice pa2 np pc2) (by simp)).other (p:=⟨w.heap.size+1,1,none⟩) (.int .i64 ar) (by simp)).other (p:=⟨w.heap.size+1,2,none⟩) (.int .i64 ce) (by simp)).other (p:=⟨w.heap.size+1,3,none⟩) (.slice (some ⟨gB,0,none⟩) nb nb) (by simp))
   have HBF_:=((((HBF.out.other (p:=⟨w.heap.size+1,0,none⟩) (.slice pa2 np pc2) (by simp)).other (p:=⟨w.heap.size+1,1,none⟩) (.int .i64 ar) (by simp)).other (p:=⟨w.heap.size+1,2,none⟩) (.int .i64 ce) (by simp)).other (p:=⟨w.heap.size+1,3,none⟩) (.slice (some ⟨gB,0,none⟩) nb nb) (by simp))
   have HW_:Below w.heap.size w ((((w6.setCell ⟨w.heap.size+1,0,none⟩ (.slice pa2 np pc2)).setCell ⟨w.heap.size+1,1,none⟩ (.int .i64 ar)).setCell ⟨w.heap.size+1,2,none⟩ (.int .i64 ce)).setCell ⟨w.heap.size+1,3,none⟩ (.slice (some ⟨gB,0,none⟩) nb nb)):=((((HW.out.setCell (p:=⟨w.heap.size+1,0,none⟩) (by first | assumption | omega | (dsimp only;omega) | (have:=HW.out.size;omega) | (simp;done) | (simp;omega)) (.slice pa2 np pc2)).setCell (p:=⟨w.heap.size+1,1,none⟩) (by first | assumption | omega | (dsimp only;omega) | (have:=HW.out.size;omega) | (simp;done) | (simp;omega)) (.int .i64 ar)).setCell (p:=⟨w.heap.size+1,2,none⟩) (by first | assumption | omega | (dsimp only;omega) | (have:=HW.out.size;omega) | (simp;done) | (simp;omega)) (.int .i64 ce)).setCell (p:=⟨w.heap.size+1,3,none⟩) (by first | assumption | omega | (dsimp only;omega) | (have:=HW.out.size;omega) | (simp;done) | (simp;omega)) (.slice (some ⟨gB,0,none⟩) nb nb))
   clear lB1 cB1 fB1 lB2 cB2 fB2 lB3 cB3 fB3
   clear B1 B2 B3 HQ HBF HW
   generalize ((((w6.setCell ⟨w.heap.size+1,0,none⟩ (.slice pa2 np pc2)).setCell ⟨w.heap.size+1,1,none⟩ (.int .i64 ar)).setCell ⟨w.heap.size+1,2,none⟩ (.int .i64 ce)).setCell ⟨w.heap.size+1,3,none⟩ (.slice (some ⟨gB,0,none⟩) nb nb))=w7 at *
   have B1:=Lib.hid B1_
   clear B1_
   have B2:=Lib.hid B2_
   clear B2_
   have B3:=Lib.hid B3_
   clear B3_
   have HQ:=Lib.hid HQ_
   clear HQ_
   have HBF:=Lib.hid HBF_
   clear HBF_
   have HW:=Lib.hid HW_
   clear HW_
   obtain ⟨lB1,cB1,fB1⟩:=B1.out
   obtain ⟨lB2,cB2,fB2⟩:=B2.out
   obtain ⟨lB3,cB3,fB3⟩:=B3.out
   refine bodyPost_ret (v:=.agg #[.slice pa2 np pc2,.int .i64 ar,.int .i64 ce,.slice (some ⟨gB,0,none⟩) nb nb]) (by simp [results,Try.results53,go_sem, *]) rfl ⟨_,fun q=>SQ q \/ SB q,rfl,⟨⟨_,_,SQ,SB,by rw [HAC.out.1,HAC.out.2],HQ.out.now,HBF.out.now,HQB.out,fun k h=>.inl h,fun k h=>.inr h⟩,fun k hk=>hk.elim (HQ.out.lt k) (HBF.out.lt k),H64.out.1,H64.out.2⟩,fun k hk => ?_,HW.out⟩
   rcases hk with hk | hk
   ·have:=HQ.out.base k hk;omega
   ·have:=HBF.out.base k hk;omega
end Go.Proofs.Ytblgdccoeecodaa
namespace Go.Proofs.Ytblgdccoeecodaa
set_option linter.unusedSimpArgs false
set_option linter.unusedVariables false
open Go.RowKit
set_option maxHeartbeats 1600000 in
theorem irCheck {w:World} {v:Value} {f:FuncD} (hv:FuncV w v f):Calls Try.prog 34 #[v] w fun e w'=>e = .returned (.int .i64 (checkF f))/\Below w.heap.size w w':=by
 have HV:=Lib.hid hv
 obtain ⟨a,b,rfl,hp,ha,hc,hB⟩:=hv
 obtain ⟨ap,cp,rfl⟩:=hp.form
 obtain ⟨ab,cb,rfl⟩:=hB.form
 clear hp ha hc hB
 go_enter Try.func34,Try.ntmps34
 go_upto_region 1 with (fail)
 have B1:Hid (Box (w.alloc (.cells #[.slice ap f.params.length cp,.int .i64 f.arrays,.int .i64 f.cells,.slice ab f.blocks.length cb] 25)) (w.heap.size) #[.slice ap f.params.length cp,.int .i64 f.arrays,.int .i64 f.cells,.slice ab f.blocks.length cb]):=Lib.hid (by simpa using (Box.new w #[.slice ap f.params.length cp,.int .i64 f.arrays,.int .i64 f.cells,.slice ab f.blocks.length cb] 25))
 have HW:Hid (Below w.heap.size w (w.alloc (.cells #[.slice ap f.params.length cp,.int .i64 f.arrays,.int .i64 f.cells,.slice ab f.blocks.length cb] 25))):=Lib.hid ((Below.refl _ _).alloc (Nat.le_refl _) _)
 generalize (w.alloc (.cells #[.slice ap f.params.length cp,.int .i64 f.arrays,.int .i64 f.cells,.slice ab f.blocks.length cb] 25))=wv at *
 obtain ⟨lB1,cB1,fB1⟩:=B1.out
 go_wp2_with fail
 refine (irOpen (HV.out.below HW.out)).mono ?_
 rintro e w2 ⟨hb,m,rfl,_,_⟩
 have HB:=Lib.hid (HW.out.trans (hb.mono HW.out.size))
 clear hb
 go_wp2
 go_ret
 exact ⟨rfl,HB.out⟩
def sizeA (f:FuncD):Int:=if checkF f=0 then sizeF f else 0
end Go.Proofs.Ytblgdccoeecodaa
