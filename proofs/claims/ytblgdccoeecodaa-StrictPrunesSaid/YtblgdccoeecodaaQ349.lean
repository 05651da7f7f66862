/- What the claim needs,part 49. -/
import Derived.OwnWalk
import Derived.Test.YtblgdccoeecodaaQ323
import Derived.Test.YtblgdccoeecodaaQ332
import Derived.Test.YtblgdccoeecodaaQ348
namespace Go.Proofs.Ytblgdccoeecodaa
set_option linter.unusedSimpArgs false
set_option linter.unusedVariables false
open Go.RowKit
theorem oints_made {W:World} {g n:Nat} (h:W.heap[g]? = some (.cells (List.replicate n (Value.int .i64 0)).toArray 3 (0,0))) (hn:n <= 100000):OInts W (Foot.one g) (.slice (some ⟨g,0,none⟩) n n) (List.replicate n 0):=by
 have hlt:=(Array.getElem?_eq_some_iff.1 h).1
 refine ⟨⟨by simp,by simp;omega,fun k hk=>by cases hk;exact hlt,.inr ⟨g,n,_,by simp,rfl,h,by simp,by unfold maxLen;omega,by simp,by simp⟩⟩,fun x hx => ?_⟩
 rw [List.eq_of_mem_replicate hx];exact ⟨by omega,by omega⟩
def OffF (D:Foot) (w0 W:World):Prop:=Off D w0 W
theorem OffF.later {D:Foot} {w0 W W' : World} (h:OffF D w0 W) (hb:Below W.heap.size W W'):OffF D w0 W':=Off.trans h (Off.of_below hb D)
theorem OffF.alloc {D:Foot} {w0 W:World} (h:OffF D w0 W) (o:Obj):OffF D w0 (W.alloc o):=Off.trans h (Off.alloc D W o)
theorem block_cells {W:World} {S:Foot} {cs:List Value} {x:BlockD} (h:OBlock W S cs x):∃ (ap ai at_:Option Addr) (cp ci ct:Nat),cs=[.slice ap x.phis.length cp,.slice ai x.code.length ci,.int .i64 x.term.op,.int .i64 x.term.val,.slice at_ x.term.to.length ct,.int .i64 x.term.n]:=by
 obtain ⟨⟨pv,uv,t,S1,S2,S3,hch,h1,h2,⟨⟨tv,rfl,hto⟩, -⟩, -⟩, -⟩:=h
 obtain ⟨ap,cp,rfl⟩:=(h1.reads (R0:=PhiR) fun _ _ _ h=>h.reads).form
 obtain ⟨ai,ci,rfl⟩:=(h2.reads (R0:=InstrR) fun _ _ _ h=>h.reads).form
 obtain ⟨at_,ct,rfl⟩:=hto.ints.form
 exact ⟨_,_,_,_,_,_,hch⟩
set_option maxHeartbeats 25600000 in
set_option maxRecDepth 100000 in
theorem graphPruned {w:World} {v:Value} {f:FuncD} {w0:World} {bg:Nat} {O:List Nat} (hv:FuncV w v f) (hM:GraphM f v w0 w bg O) (hO:IsOrder f O) (hc:checkF f=0):Calls Try.prog 33 #[.pointer (some ⟨bg,0,none⟩)] w (CopyR (prunedF f) w):=by
 have HV:=Lib.hid hv
 have HF:=Lib.hid (check_fine hc).1
 have HSZ:=Lib.hid (block_sizes hc)
 obtain ⟨g0,g1,g2,g3,pv,ov,lv,e0,hbg, -, -, -,hpl⟩:=hM
 obtain ⟨ap,cp,ab,cb,e1, -,ha,hc64, -⟩:=hv.form
 rw [e1] at e0
 obtain ⟨rfl,rfl,rfl,rfl⟩ : Value.slice ap f.params.length cp=g0/\Value.int .i64 f.arrays=g1/\Value.int .i64 f.cells=g2/\Value.slice ab f.blocks.length cb=g3:=by simpa using e0
 subst e1
 have H64:=Lib.hid (And.intro ha hc64)
 obtain ⟨np,hnp⟩ : ∃ np,np=f.params.length:=⟨_,rfl⟩
 obtain ⟨ar,har⟩ : ∃ ar,ar=f.arrays:=⟨_,rfl⟩
 obtain ⟨ce,hce⟩ : ∃ ce,ce=f.cells:=⟨_,rfl⟩
 obtain ⟨nb,hnb⟩ : ∃ nb,nb=f.blocks.length:=⟨_,rfl⟩
 obtain ⟨la,lc,lb,lo,rfl,hlc,hlm,hla,hlx⟩:=hpl.parts
 rw [placeI_len, <-hnb] at hlc hla hbg hlx
 rw [<-hnb, <-hnp, <-har, <-hce] at HV
 rw [<-hnp, <-har, <-hce] at hbg
 have hn1:1 <= nb:=by rw [hnb];exact (formB_nb HF.out).1
 have h512:nb <= 512:=by rw [hnb];exact (formB_nb HF.out).2
 obtain ⟨rfl,hlw⟩:=hla (by omega)
 have HNB:=Lib.hid hnb
 have HNP:=Lib.hid hnp
 have HAC:Hid (ar=f.arrays/\ce=f.cells):=Lib.hid ⟨har,hce⟩
 have HBG:=Lib.hid hbg
 obtain ⟨c,hcd⟩ : ∃ c,c=comeF f:=⟨_,rfl⟩
 have HCD:=Lib.hid hcd
 have HPL:Hid (∀ d,d < nb -> ∃ z,w.cell? ⟨lb,lo+d,none⟩=some (.int .i64 z)/\decide (0 <= z)=c d):=Lib.hid (fun d hd=>by
  obtain ⟨z,hz,hzc⟩:=place_come hO (d:=d) (by omega)
  rw [<-hnb] at hz
  refine ⟨z, ?_,by rw [hcd];exact hzc⟩
  rw [hlx d hd,getD_some hz])
 clear hv hbg hpl hlx hnb hnp har hce ha hc64 hla hcd e0 hO hc
 have HW:Hid (Below w.heap.size w w):=Lib.hid (Below.refl _ _)
 go_enter Try.func33,Try.ntmps33
 go_upto_region 1 with (fail)
 have B2:Hid (Box (w.alloc (.cells #[.slice none 0 0,.int .i64 0,.int .i64 0,.slice none 0 0] 25)) (w.heap.size) #[.slice none 0 0,.int .i64 0,.int .i64 0,.slice none 0 0]):=Lib.hid (by simpa using (Box.new w #[.slice none 0 0,.int .i64 0,.int .i64 0,.slice none 0 0] 25))
 have HW:Hid (Below w.heap.size w (w.alloc (.cells #[.slice none 0 0,.int .i64 0,.int .i64 0,.slice none 0 0] 25))):=Lib.hid ((Below.refl _ _).alloc (Nat.le_refl _) _)
 generalize (w.alloc (.cells #[.slice none 0 0,.int .i64 0,.int .i64 0,.slice none 0 0] 25))=wv at *
 obtain ⟨lB2,cB2,fB2⟩:=B2.out
 obtain ⟨lG,cG,fG⟩:=(HBG.out.later HW.out)
 go_wp2_with fail
 clear lG cG fG
 refine (irCopy (HV.out.below HW.out) HSZ.out.1 HSZ.out.2).mono ?_
 rintro e w3 ⟨vo,SO,rfl,hOF,hFr,hb⟩
 obtain ⟨⟨pa,bv,SQ,SB,rfl,hQ,hOB,hQB,hsq,hsb⟩,hlt, -, -⟩:=hOF
 obtain ⟨pa2,pc2,rfl⟩:=hQ.ints.form
 have hl2:w.heap.size+1 <= wv.heap.size:=lB2
 have hl3:w.heap.size+1 <= w3.heap.size:=Nat.le_trans hl2 hb.size
 have HQ:Hid (Holds [w.heap.size] (w.heap.size+1) w3 SQ (fun W=>OInts W SQ (.slice pa2 np pc2) f.params)):=Lib.hid (by
  have h9:=((holds_ints hQ (fun k hk=>hFr k (hsq k hk))).from hl2).low (bs':=[w.heap.size]) (by simp)
  rw [<-HNP.out] at h9;exact h9)
 have HSB:Hid ((∀ k,SB k -> w.heap.size+1 <= k)/\(∀ k,SB k -> k < w3.heap.size)/\SQ.off SB/\(∀ k,SQ k -> k < w3.heap.size)):=Lib.hid ⟨fun k hk=>Nat.le_trans hl2 (hFr k (hsb k hk)),hOB.lt,hQB,hQ.lt⟩
 obtain ⟨cs,G,F,hp⟩:=hOB
 obtain ⟨g,cap,hbv,hGg, -, -,hgl, -, -⟩:=hp.row.addr (by have:=HNB.out;omega)
 rw [<-HNB.out] at hbv
 subst hbv
 have HP:Hid (Holds [w.heap.size] (w.heap.size+1) w3 SB (fun W=>OParts OBlock 56 6 W SB (.slice (some ⟨g,0,none⟩) nb cap) f.blocks cs G F)):=Lib.hid ⟨hp,fun _ _ h hk=>h.keep OBlock.nice hk,hp.lt,HSB.out.1,fun k hk=>by have:=HSB.out.1 k hk;simp;omega⟩
 have HGG:=Lib.hid hGg
 rw [<-HAC.out.1, <-HAC.out.2, <-HNP.out]
 clear hQ hp hQB hsq hsb hlt hFr hGg
 clear lB2 cB2 fB2
 replace B2:=Lib.hid (B2.out.later hb)
 replace HW:=Lib.hid (HW.out.trans (hb.mono HW.out.size))
 clear hb
 obtain ⟨lB2,cB2,fB2⟩:=B2.out

 go_upto_region 2 with (fail)
 replace HQ:=Lib.hid (HQ.out.more (Nat.le_refl _))
 replace HP:=Lib.hid (HP.out.more (Nat.le_refl _))
 have nB3B2:w3.heap.size ≠ w.heap.size:=fun e=>by have:=lB2;omega
 have nB2B3:w.heap.size ≠ w3.heap.size:=fun e=>nB3B2 e.symm
 have B2_:Box (w3.alloc (.cells #[.slice pa2 np pc2,.int .i64 ar,.int .i64 ce,.slice (some ⟨g,0,none⟩) nb cap] 25)) (w.heap.size) #[.slice none 0 0,.int .i64 0,.int .i64 0,.slice none 0 0]:=by simpa using (B2.out.alloc _)
 have B3_:Box (w3.alloc (.cells #[.slice pa2 np pc2,.int .i64 ar,.int .i64 ce,.slice (some ⟨g,0,none⟩) nb cap] 25)) (w3.heap.size) #[.slice pa2 np pc2,.int .i64 ar,.int .i64 ce,.slice (some ⟨g,0,none⟩) nb cap]:=by simpa using (Box.new w3 #[.slice pa2 np pc2,.int .i64 ar,.int .i64 ce,.slice (some ⟨g,0,none⟩) nb cap] 25)
 have HQ_:=(HQ.out.alloc (.cells #[.slice pa2 np pc2,.int .i64 ar,.int .i64 ce,.slice (some ⟨g,0,none⟩) nb cap] 25))
 have HP_:=(HP.out.alloc (.cells #[.slice pa2 np pc2,.int .i64 ar,.int .i64 ce,.slice (some ⟨g,0,none⟩) nb cap] 25))
 have HW_:Below w.heap.size w (w3.alloc (.cells #[.slice pa2 np pc2,.int .i64 ar,.int .i64 ce,.slice (some ⟨g,0,none⟩) nb cap] 25)):=(HW.out.alloc (by first | exact Nat.le_refl _ | exact HW.out.size | (simp only [World.size_alloc,World.size_setCell];have:=HW.out.size;omega)) _)
 clear lB2 cB2 fB2
 clear B2 HQ HP HW
 generalize (w3.alloc (.cells #[.slice pa2 np pc2,.int .i64 ar,.int .i64 ce,.slice (some ⟨g,0,none⟩) nb cap] 25))=w4 at *
 have B2:=Lib.hid B2_
 clear B2_
 have B3:=Lib.hid B3_
 clear B3_
 have HQ:=Lib.hid HQ_
 clear HQ_
 have HP:=Lib.hid HP_
 clear HP_
 have HW:=Lib.hid HW_
 clear HW_
 obtain ⟨lB2,cB2,fB2⟩:=B2.out
 obtain ⟨lB3,cB3,fB3⟩:=B3.out
 have hl34:w3.heap.size < w4.heap.size:=lB3
 replace HQ:=Lib.hid (HQ.out.more (Nat.le_refl w4.heap.size))
 replace HP:=Lib.hid (HP.out.more (Nat.le_refl w4.heap.size))
 have HSL:Hid (∀ k,SB k -> k < w3.heap.size):=Lib.hid HSB.out.2.1
 go_upto_region 3 with (at_make;refine wpList_make_whole rfl _ _ 22 3 rfl elInt nb rfl rfl rfl rfl (by omega) ?_;intro w5 hblk hgr;have hB3:=B3.out.later hgr;obtain ⟨lx,cx,fx⟩:=hB3)
 clear lx cx fx
 obtain ⟨gN,hgN⟩ : ∃ gN,gN=w4.heap.size:=⟨_,rfl⟩
 rw [<-hgN] at hblk HQ HP ⊢
 rw [<-hgN] at hl34
 have HNU:Hid (Holds [w3.heap.size,w.heap.size] (w.heap.size+1) w5 (Foot.one gN) (fun W=>OInts W (Foot.one gN) (.slice (some ⟨gN,0,none⟩) nb nb) (numsI c nb 0))):=Lib.hid (by
  rw [numsI_zero]
  exact ⟨oints_made hblk.out (by omega),fun _ _ h hk=>h.keep hk,fun k hk=>by cases hk;exact (Array.getElem?_eq_some_iff.1 hblk.out).1,fun k hk=>by cases hk;omega,fun k hk=>by cases hk;simp;omega⟩)
 clear hgN hblk
 clear lB2 cB2 fB2 lB3 cB3 fB3
 replace B2:=Lib.hid (B2.out.later hgr)
 replace B3:=Lib.hid (B3.out.later hgr)
 replace HQ:=Lib.hid (HQ.out.later hgr)
 replace HP:=Lib.hid (HP.out.later hgr)
 replace HW:=Lib.hid (HW.out.trans (hgr.mono HW.out.size))
 clear hgr
 obtain ⟨lB2,cB2,fB2⟩:=B2.out
 obtain ⟨lB3,cB3,fB3⟩:=B3.out

 have hgN5:gN < w5.heap.size:=HNU.out.lt gN rfl
 have HP5:=HP
 have HQ5:=HQ
 have HW5:=HW
 have B25:=B2
 have B35:=B3
 clear HP HQ
 go_wp2_with fail
 go_loopw [5,30] (fun tv iv wr => ∃ (i:Nat) (Sk:Foot) (ak:Option Addr) (ck:Nat),i <= nb/\iv = .int .i64 i/\tv = .slice ak (numN c i) ck/\OffF (fun k=>k=gN \/ ∃ d,d < i/\F d k) w5 wr/\Holds [w3.heap.size,w.heap.size] (w.heap.size+1) wr (Foot.one gN) (fun W=>OInts W (Foot.one gN) (.slice (some ⟨gN,0,none⟩) nb nb) (numsI c nb i)) /\
   Holds [gN,w3.heap.size,w.heap.size] (w.heap.size+1) wr Sk (fun W=>OBlocks W Sk (.slice ak (numN c i) ck) (keptB c f i)) /\ ∀ k,Sk k -> (∃ d,d < i/\F d k) \/ w5.heap.size <= k) (fun _ iv _=>nb - (intOf iv).toNat)
 case atStart=>exact ⟨0,Foot.none,none,0,Nat.zero_le _,rfl,rfl,Off.refl _ _,HNU.out,⟨OSl.nil none,fun _ _ h hk=>h.keep OBlock.nice hk,fun k h=>h.elim,fun k h=>h.elim,fun k h=>h.elim⟩,fun k h=>h.elim⟩
 case round =>
  obtain ⟨i,Sk,ak,ck,hi,rfl,rfl,hof,hnu,hkp,hsk⟩:=hrel
  clear lB2 cB2 fB2 lB3 cB3 fB3
  have HOF:=Lib.hid hof
  replace HNU:=Lib.hid hnu
  have HKP:=Lib.hid hkp
  have HSK:=Lib.hid hsk
  clear hof hnu hkp hsk
  have HDB:Hid (∀ k,(k=gN \/ ∃ d,d < i/\F d k) -> w.heap.size+1 <= k/\k ∉ [w3.heap.size,w.heap.size]):=Lib.hid (fun k hk=>by
   rcases hk with rfl | ⟨d,hd,hk⟩
   ·exact ⟨by omega,by simp;omega⟩
   ·have h1:=HP5.out.now.inF d k (by have:=HNB.out;omega) hk
    have h2:=HSL.out k h1
    have h3:=HSB.out.1 k h1
    exact ⟨h3,by simp;omega⟩)
  replace HW:=Lib.hid (HW5.out.trans (Off.below HOF.out HW5.out.size (fun k _ hk=>by have:=(HDB.out k hk).1;omega)))
  replace B2:=Lib.hid (B25.out.off HOF.out (fun h=>(HDB.out _ h).2 (by simp)))
  replace B3:=Lib.hid (B35.out.off HOF.out (fun h=>(HDB.out _ h).2 (by simp)))
  generalize wr=w6 at *
  have hw56:w5.heap.size <= w6.heap.size:=Off.size HOF.out

  by_cases hlt:i < nb
  ·obtain ⟨x,hx⟩ : ∃ x,f.blocks[i]? = some x:=⟨_,List.getElem?_eq_getElem (by have:=HNB.out;omega)⟩
   have hFD:∀ k,F i k -> ¬ (k=gN \/ ∃ d,d < i/\F d k):=fun k h1 h2=>by
    rcases h2 with rfl | ⟨d,hd,h2⟩
    ·have:=HSL.out _ (HP5.out.now.inF i _ (by have:=HNB.out;omega) h1);omega
    ·exact HP5.out.now.apart i d (by have:=HNB.out;omega) (by have:=HNB.out;omega) (by omega) k h1 h2
   have hgD:¬ (g=gN \/ ∃ d,d < i/\F d g):=fun h2=>by
    rcases h2 with e | ⟨d,hd,h2⟩
    ·omega
    ·exact HP5.out.now.free d (by have:=HNB.out;omega) g h2 HGG.out
   have hel5:=HP5.out.now.el i x hx
   have HEL:Hid (OBlock w6 (F i) (chunk cs 6 i) x):=Lib.hid (OBlock.nice.off hel5 HOF.out hFD)
   obtain ⟨apx,aix,atx,cpx,cix,ctx,hch⟩:=block_cells hel5
   obtain ⟨g',cap',hbv, -, -, -, -,hcell,hfr⟩:=HP5.out.now.row.addr (by have:=HNB.out;omega)
   obtain ⟨rfl,rfl⟩ : g=g' /\ cap=cap':=by injection hbv with h1 h2 h3;injection h1 with h1;injection h1 with h1;exact ⟨h1,h3⟩
   have hg5:g < w5.heap.size:=by omega
   have hc:∀ o u,o < 6 -> (chunk cs 6 i)[o]? = some u -> w6.cell? ⟨g,i * 6+o,none⟩=some u:=fun o u ho hu=>(Off.cell HOF.out hg5 hgD).trans (hcell _ _ (by rw [<-chunk_at ho];exact hu))
   rw [hch] at hc HEL
   have k0:=hc 0 _ (by omega) rfl
   have k1:=hc 1 _ (by omega) rfl
   have k2:=hc 2 _ (by omega) rfl
   have k3:=hc 3 _ (by omega) rfl
   have k4:=hc 4 _ (by omega) rfl
   have k5:=hc 5 _ (by omega) rfl
   rw [Nat.add_zero] at k0
   obtain ⟨z,hz,hzc⟩:=HPL.out i hlt
   have HZ:=Lib.hid hz
   have HZC:=Lib.hid hzc
   have HX:=Lib.hid hx
   have HFD:=Lib.hid hFD
   clear hbv hcell hc hel5 hx hz hzc hFD hgD hfr hch



   have HELH:Hid (Holds [] (w.heap.size+1) w6 (F i) (fun W=>OBlock W (F i) [.slice apx x.phis.length cpx,.slice aix x.code.length cix,.int .i64 x.term.op,.int .i64 x.term.val,.slice atx x.term.to.length ctx,.int .i64 x.term.n] x)):=Lib.hid (holds_nice OBlock.nice HEL.out (fun k hk=>HSB.out.1 k (HP5.out.now.inF i k (by have:=HNB.out;omega) hk)))
   clear HEL

   obtain ⟨lB2,cB2,fB2⟩:=B2.out
   obtain ⟨lB3,cB3,fB3⟩:=B3.out
   go_upto_region 7 with (fail)
   have nBLB2:w6.heap.size ≠ w.heap.size:=fun e=>by have:=lB2;omega
   have nB2BL:w.heap.size ≠ w6.heap.size:=fun e=>nBLB2 e.symm
   have nBLB3:w6.heap.size ≠ w3.heap.size:=fun e=>by have:=lB3;omega
   have nB3BL:w3.heap.size ≠ w6.heap.size:=fun e=>nBLB3 e.symm
   have B2_:Box (w6.alloc (.cells #[.slice apx x.phis.length cpx,.slice aix x.code.length cix,.int .i64 x.term.op,.int .i64 x.term.val,.slice atx x.term.to.length ctx,.int .i64 x.term.n] 56)) (w.heap.size) #[.slice none 0 0,.int .i64 0,.int .i64 0,.slice none 0 0]:=by simpa using (B2.out.alloc _)
   have B3_:Box (w6.alloc (.cells #[.slice apx x.phis.length cpx,.slice aix x.code.length cix,.int .i64 x.term.op,.int .i64 x.term.val,.slice atx x.term.to.length ctx,.int .i64 x.term.n] 56)) (w3.heap.size) #[.slice pa2 np pc2,.int .i64 ar,.int .i64 ce,.slice (some ⟨g,0,none⟩) nb cap]:=by simpa using (B3.out.alloc _)
   have BL_:Box (w6.alloc (.cells #[.slice apx x.phis.length cpx,.slice aix x.code.length cix,.int .i64 x.term.op,.int .i64 x.term.val,.slice atx x.term.to.length ctx,.int .i64 x.term.n] 56)) (w6.heap.size) #[.slice apx x.phis.length cpx,.slice aix x.code.length cix,.int .i64 x.term.op,.int .i64 x.term.val,.slice atx x.term.to.length ctx,.int .i64 x.term.n]:=by simpa using (Box.new w6 #[.slice apx x.phis.length cpx,.slice aix x.code.length cix,.int .i64 x.term.op,.int .i64 x.term.val,.slice atx x.term.to.length ctx,.int .i64 x.term.n] 56)
   have HOF_:=(HOF.out.alloc (.cells #[.slice apx x.phis.length cpx,.slice aix x.code.length cix,.int .i64 x.term.op,.int .i64 x.term.val,.slice atx x.term.to.length ctx,.int .i64 x.term.n] 56))
   have HNU_:=(HNU.out.alloc (.cells #[.slice apx x.phis.length cpx,.slice aix x.code.length cix,.int .i64 x.term.op,.int .i64 x.term.val,.slice atx x.term.to.length ctx,.int .i64 x.term.n] 56))
   have HKP_:=(HKP.out.alloc (.cells #[.slice apx x.phis.length cpx,.slice aix x.code.length cix,.int .i64 x.term.op,.int .i64 x.term.val,.slice atx x.term.to.length ctx,.int .i64 x.term.n] 56))
   have HELH_:=(HELH.out.alloc (.cells #[.slice apx x.phis.length cpx,.slice aix x.code.length cix,.int .i64 x.term.op,.int .i64 x.term.val,.slice atx x.term.to.length ctx,.int .i64 x.term.n] 56))
   have HW_:Below w.heap.size w (w6.alloc (.cells #[.slice apx x.phis.length cpx,.slice aix x.code.length cix,.int .i64 x.term.op,.int .i64 x.term.val,.slice atx x.term.to.length ctx,.int .i64 x.term.n] 56)):=(HW.out.alloc (by first | exact Nat.le_refl _ | exact HW.out.size | (simp only [World.size_alloc,World.size_setCell];have:=HW.out.size;omega)) _)
   clear lB2 cB2 fB2 lB3 cB3 fB3
   clear B2 B3 HOF HNU HKP HELH HW
   generalize (w6.alloc (.cells #[.slice apx x.phis.length cpx,.slice aix x.code.length cix,.int .i64 x.term.op,.int .i64 x.term.val,.slice atx x.term.to.length ctx,.int .i64 x.term.n] 56))=w7 at *
   have B2:=Lib.hid B2_
   clear B2_
   have B3:=Lib.hid B3_
   clear B3_
   have BL:=Lib.hid BL_
   clear BL_
   have HOF:=Lib.hid HOF_
   clear HOF_
   have HNU:=Lib.hid HNU_
   clear HNU_
   have HKP:=Lib.hid HKP_
   clear HKP_
   have HELH:=Lib.hid HELH_
   clear HELH_
   have HW:=Lib.hid HW_
   clear HW_
   obtain ⟨lB2,cB2,fB2⟩:=B2.out
   obtain ⟨lB3,cB3,fB3⟩:=B3.out
   obtain ⟨lBL,cBL,fBL⟩:=BL.out
   clear k0 k1 k2 k3 k4 k5
   obtain ⟨lG,cG,fG⟩:=HBG.out.later HW.out
   have hz7:=(HW.out.cell (p:=⟨lb,lo+i,none⟩) hlw).trans HZ.out
   have HMON:Hid (OffF (fun k=>k=gN \/ ∃ d,d < i+1/\F d k) w5 w7):=Lib.hid (Off.mono HOF.out fun k _ h=>h.imp id (fun ⟨d,hd,h⟩=>⟨d,by omega,h⟩))
   cases hci:c i
   ·have hzz:decide (0 <= z)=false:=HZC.out.trans hci
    have hnn:numN c (i+1)=numN c i:=by rw [numN_succ,hci];simp
    have hkk:keptB c f (i+1)=keptB c f i:=by rw [kept_succ HX.out,hci];simp
    have HNN:=Lib.hid hnn
    have HKK:=Lib.hid hkk
    have HCI:=Lib.hid hci
    clear hnn hkk hci
    go_wp2
    go_roundw
    case rel =>
     refine ⟨i+1,Sk,ak,ck,hlt,by go_num,by rw [HNN.out],HMON.out,by rw [numsI_no HCI.out];exact HNU.out,by rw [HNN.out,HKK.out];exact HKP.out,fun k hk=>(HSK.out k hk).imp (fun ⟨d,hd,h⟩=>⟨d,by omega,h⟩) id⟩
    case measure=>simp [intOf];omega
   ·have hzz:decide (0 <= z)=true:=HZC.out.trans hci
    have HNN:Hid (numN c (i+1)=numN c i+1):=Lib.hid (by rw [numN_succ,hci];simp)
    have HKK:Hid (keptB c f (i+1)=keptB c f i ++ [x]):=Lib.hid (by rw [kept_succ HX.out,hci];simp)
    have HCI:=Lib.hid hci
    have HLEN:Hid ((keptB c f i).length=numN c i):=Lib.hid (kept_len (by have:=HNB.out;omega))
    have hni:numN c i <= i:=numN_le c i
    obtain ⟨nk,hnk⟩ : ∃ nk,nk=numN c i:=⟨_,rfl⟩
    have HNK:=Lib.hid hnk
    rw [<-hnk] at HKP HLEN hni ⊢
    obtain ⟨gx,cx2,hvx, -,hgx,hcx,hfx,hsx⟩:=HNU.out.now.addr (numsI_get (c:=c) (i:=i) hlt)
    rw [numsI_len] at hvx
    cases hvx
    have HPUT:=Lib.hid (hsx ((numN c i:Nat):Int) ⟨by omega,by omega⟩)
    rw [numsI_yes hci hlt, <-hnk] at HPUT
    have HS8:Hid (Off (Foot.one gN) w7 (w7.setCell ⟨gN,i,none⟩ (.int .i64 (nk:Int)))):=Lib.hid (Off.set w7 ⟨gN,i,none⟩ _)
    clear hsx hnk hci
    go_upto_region 9 with (fail)
    clear lB2 cB2 fB2 lB3 cB3 fB3 lBL cBL fBL
    clear hcx hfx hz7 hzz lG cG fG
    generalize w7.setCell ⟨gN,i,none⟩ (.int .i64 (nk:Int))=w8 at *
    replace HW:=Lib.hid (HW.out.trans (HS8.out.below HW.out.size (fun k _ hk=>by cases hk;omega)))
    replace B2:=Lib.hid (B2.out.off HS8.out (fun h=>by have e:w.heap.size=gN:=h;omega))
    replace B3:=Lib.hid (B3.out.off HS8.out (fun h=>by have e:w3.heap.size=gN:=h;omega))
    replace BL:=Lib.hid (BL.out.off HS8.out (fun h=>by have e:w6.heap.size=gN:=h;omega))
    have HOF8:Hid (Off (fun k=>k=gN \/ ∃ d,d < i+1/\F d k) w5 w8):=Lib.hid (Off.trans HMON.out (HS8.out.mono fun k _ hk=>by cases hk;exact .inl rfl))
    replace HKP:=Lib.hid ((HKP.out.off HS8.out (fun k h1 h2=>HKP.out.free k h1 (by cases h2;simp))).less (bs':=[]) (by simp))
    have HKF:Hid (∀ k,Sk k -> k ∉ [gN,w3.heap.size,w.heap.size]):=Lib.hid (fun k hk hm=>by
     have h9:=HDB.out k
     rcases HSK.out k hk with ⟨d,hd,h⟩ | h
     ·have h1:=HSL.out k (HP5.out.now.inF d k (by have:=HNB.out;omega) h)
      have h2:=(h9 (.inr ⟨d,hd,h⟩)).1
      simp at hm;omega
     ·simp at hm;omega)
    replace HELH:=Lib.hid (HELH.out.off HS8.out (fun k h1 h2=>HFD.out k h1 (.inl h2)))
    have HNU8:Hid (Holds [w3.heap.size,w.heap.size] (w.heap.size+1) w8 (Foot.one gN) (fun W=>OInts W (Foot.one gN) (.slice (some ⟨gN,0,none⟩) nb nb) (numsI c nb (i+1)))) :=
     Lib.hid ⟨HPUT.out,fun _ _ h hk=>h.keep hk,HPUT.out.lt,fun k hk=>by cases hk;omega,fun k hk=>by cases hk;simp;omega⟩
    have HFK:Hid ((F i).off Sk):=Lib.hid (fun k h1 h2=>by
     rcases HSK.out k h2 with ⟨d,hd,h⟩ | h
     ·exact HFD.out k h1 (.inr ⟨d,hd,h⟩)
     ·have:=HSL.out k (HP5.out.now.inF i k (by have:=HNB.out;omega) h1);omega)
    clear HNU HPUT HMON HOF HS8


    obtain ⟨lBL,cBL,fBL⟩:=BL.out
    have hl8:w.heap.size+1 <= w8.heap.size:=by have:=Off.size HOF8.out;omega
    have hp1:∀ b ∈ ([] : List Nat),b < w.heap.size+1:=by intro b hb;cases hb
    have hp5:∀ o:Obj,w.heap.size+1 <= (w8.alloc o).heap.size:=fun o=>by rw [World.size_alloc];omega
    have hp2:nk+1 <= 17592186044416:=by omega
    have hp3:(nk+1) * 96 <= 140737488355328:=by omega
    have hp4:∀ u ∈ ([.slice apx x.phis.length cpx,.slice aix x.code.length cix,.int .i64 x.term.op,.int .i64 x.term.val,.slice atx x.term.to.length ctx,.int .i64 x.term.n] : List Value),u.oneCell' = true:=by simp [Value.oneCell']
    go_upto_region 10 with (at_builtin;go_loud (refine wpList_osnoc OBlock.nice rfl _ _ 23 56 rfl elBlock rfl rfl HLEN.out (HKP.out.alloc _) (Box.new _ _ _) rfl (HELH.out.alloc _).now HFK.out HELH.out.base hp1 (hp5 _) hp4 hp2 hp3 ?_);intro v2 w9 SN q1 q2 q3 q4;obtain ⟨g2,c2,rfl⟩:=q4)
    have hsz8:=Off.size HOF8.out
    have HOF9:Hid (OffF (fun k=>k=gN \/ ∃ d,d < i+1/\F d k) w5 w9):=Lib.hid (Off.grow (Off.trans HOF8.out (Off.alloc _ _ _)) q3 (fun k hk=>by
     rcases HSK.out k hk with ⟨d,hd,h⟩ | h
     ·exact .inl (.inr ⟨d,by omega,h⟩)
     ·exact .inr h))
    have HNU9:=Lib.hid ((HNU8.out.alloc _).off q3 (fun k h1 h2=>HKF.out k h2 (by cases h1;simp)))
    have HKP9:Hid (Holds [gN,w3.heap.size,w.heap.size] (w.heap.size+1) w9 SN (fun W=>OBlocks W SN (.slice (some ⟨g2,0,none⟩) (nk+1) c2) (keptB c f i ++ [x]))):=Lib.hid ⟨q1.now,q1.keep,q1.lt,q1.base,fun k hk hm=>by
     rcases q2 k hk with h | h | h
     ·exact HKF.out k h hm
     ·have h1:=HSL.out k (HP5.out.now.inF i k (by have:=HNB.out;omega) h)
      have h2:=HSB.out.1 k (HP5.out.now.inF i k (by have:=HNB.out;omega) h)
      simp at hm;omega
     ·simp at h hm;omega⟩
    have HSK9:Hid (∀ k,SN k -> (∃ d,d < i+1/\F d k) \/ w5.heap.size <= k):=Lib.hid (fun k hk=>by
     rcases q2 k hk with h | h | h
     ·exact (HSK.out k h).imp (fun ⟨d,hd,h⟩=>⟨d,by omega,h⟩) id
     ·exact .inl ⟨i,by omega,h⟩
     ·simp at h;right;omega)
    rw [<-HKK.out] at HKP9
    have HN1:Hid (nk+1=numN c (i+1)):=Lib.hid (by rw [HNN.out,HNK.out])
    clear q1 q2 q3 hsz8
    clear lBL cBL fBL
    go_wp2
    go_roundw
    case rel=>exact ⟨i+1,SN,some ⟨g2,0,none⟩,c2,hlt,by go_num,by rw [<-HN1.out],HOF9.out,HNU9.out,by rw [<-HN1.out];exact HKP9.out,HSK9.out⟩
    case measure=>simp [intOf];omega
  ·have hin:i=nb:=by omega
   rw [hin] at HNU HKP ⊢
   obtain ⟨nk,hnk⟩ : ∃ nk,nk=numN c nb:=⟨_,rfl⟩
   rw [<-hnk] at HKP ⊢
   obtain ⟨kl,hkl⟩ : ∃ kl,kl=keptB c f nb:=⟨_,rfl⟩
   rw [<-hkl] at HKP
   have HKL:Hid (nk=kl.length):=Lib.hid (by rw [hkl,kept_len (by have:=HNB.out;omega),hnk])
   have HKLD:Hid (kl=keptB c f f.blocks.length):=Lib.hid (by rw [hkl,HNB.out])
   have hnk5:nk <= 512:=by have:=numN_le c nb;omega
   have HSF:Hid (∀ k,Sk k -> w.heap.size+1 <= k/\k ∉ [gN,w3.heap.size,w.heap.size]):=Lib.hid (fun k hk=>⟨HKP.out.base k hk,HKP.out.free k hk⟩)
   have HQ6:Hid (Holds [w3.heap.size,w.heap.size] (w.heap.size+1) w6 SQ (fun W=>OInts W SQ (.slice pa2 np pc2) f.params)):=Lib.hid ((HQ5.out.off HOF.out (fun k h1 h2=>by
    rcases h2 with rfl | ⟨d,hd,h2⟩
    ·have:=HSB.out.2.2.2 _ h1;omega
    ·exact HSB.out.2.2.1 k h1 (HP5.out.now.inF d k (by have:=HNB.out;omega) h2))).less (by simp))
   have HQK:Hid (SQ.off Sk):=Lib.hid (fun k h1 h2=>by
    have h3:=HSB.out.2.2.2 k h1
    rcases HSK.out k h2 with ⟨d,hd,h2⟩ | h2
    ·exact HSB.out.2.2.1 k h1 (HP5.out.now.inF d k (by have:=HNB.out;omega) h2)
    ·omega)
   have HKB:=Lib.hid HKP.out.now
   have HKBL:=Lib.hid HKP.out.lt
   have hgN6:gN < w6.heap.size:=by omega
   have HNC:Hid (∀ t,t < nb -> c t=true -> w6.cell? ⟨gN,t,none⟩=some (.int .i64 ((numN c t:Nat):Int))):=Lib.hid (fun t ht hct=>by
    obtain ⟨gx,cx2,hvx, -, -,hcx, -, -⟩:=HNU.out.now.addr (numsI_at (c:=c) ht hct)
    rw [numsI_len] at hvx
    cases hvx
    exact hcx)
   clear hnk hkl HP5 HQ5 HW5 B25 B35 HDB HOF HNU HKP HSK
   have HW6:=HW
   have B26:=B2
   have B36:=B3
   go_wp2_with fail
   go_loopw [55] (fun iv wr => ∃ (j:Nat) (Sq:Foot),j <= nk/\iv = .int .i64 j/\OffF Sk w6 wr/\OBlocks wr Sq (.slice ak nk ck) (upTo (pruneB c) kl j) /\ ∀ k,Sq k -> Sk k \/ w6.heap.size <= k) (fun iv _=>nk - (intOf iv).toNat)
   case atStart=>exact ⟨0,Sk,Nat.zero_le _,rfl,Off.refl _ _,by rw [upTo_zero];exact HKB.out,fun k h=>.inl h⟩
   case round =>
    obtain ⟨j,Sq,hj,rfl,hof,hob,hsq⟩:=hrel
    have HOF:=Lib.hid hof
    have HOB:=Lib.hid hob
    have HSQ:=Lib.hid hsq
    clear hof hob hsq
    replace HW:=Lib.hid (HW6.out.trans (Off.below HOF.out HW6.out.size (fun k _ hk=>by have:=(HSF.out k hk).1;omega)))
    replace B2:=Lib.hid (B26.out.off HOF.out (fun h=>(HSF.out _ h).2 (by simp)))
    replace B3:=Lib.hid (B36.out.off HOF.out (fun h=>(HSF.out _ h).2 (by simp)))
    generalize wr=wj at *
    have hw6j:w6.heap.size <= wj.heap.size:=Off.size HOF.out

    by_cases hlt:j < nk
    ·obtain ⟨y,hyj⟩ : ∃ y,kl[j]? = some y:=⟨_,List.getElem?_eq_getElem (by have:=HKL.out;omega)⟩
     obtain ⟨dy,hdy,hcy⟩:=kept_mem (c:=c) (f:=f) (j:=j) (y:=y) (by rw [<-HKLD.out];exact hyj)
     have HCT:Hid (∀ t ∈ y.term.to,c t.toNat=true/\1 <= t/\t < nb):=Lib.hid (fun t ht=>by
      have h9:=come_to HF.out hdy (by rw [<-HCD.out];exact hcy) ht
      rw [<-HCD.out] at h9
      exact ⟨h9.1,h9.2.1,by have:=HNB.out;omega⟩)
     have HPS:Hid (∀ p ∈ y.phis,(∀ q ∈ p.src,0 <= q/\q < nb)/\p.src.length=p.vals.length/\p.vals.length <= 512):=Lib.hid (fun p hp=>⟨fun q hq=>by have:=phi_src HF.out hdy hp q hq;have:=HNB.out;omega,(even_of HF.out).phi y (List.mem_of_getElem? hdy) p hp⟩)
     have HSY:Hid (y.phis.length <= 100000):=Lib.hid (HSZ.out.1 y (List.mem_of_getElem? hdy)).1
     obtain ⟨hup,hnx⟩:=upTo_at (g:=pruneB c) hyj
     obtain ⟨gk,cap',apy,aiy,aty,cpy,ciy,cty,S1,S2,S3,hv,hgkl,hSg,hC,hfr, -, -,hto, -, -,i3, -, -, -,hng, -, -,hcl3⟩:=HOB.out.open hup
     rw [upTo_len, <-HKL.out] at hv
     cases hv
     obtain ⟨-, -, -, -,k4, -, -, -, -, -, -, -⟩:=hC
     obtain ⟨tl,htl⟩ : ∃ tl,tl=y.term.to.length:=⟨_,rfl⟩
     rw [<-htl] at k4 hto hcl3
     have HTL:=Lib.hid htl
     have HUP:=Lib.hid hup
     have HNX:=Lib.hid hnx
     have HTO:=Lib.hid hto
     have HCL3:=Lib.hid hcl3
     have HI3:Hid (∀ k,S3 k -> Sk k \/ w6.heap.size <= k):=Lib.hid (fun k hk=>HSQ.out k (i3 k hk))
     have HNG3:Hid (¬ S3 gk):=Lib.hid hng.2.2
     have HK4:=Lib.hid k4
     have hto16:tl <= 17592186044416:=by rw [htl];exact hto.ints.le
     clear hup hnx hto hcl3 i3 hng htl hdy hcy hyj hSg


     go_wp2_with fail
     clear k4 hfr
     go_loopw [67] (fun iv wr => ∃ (k:Nat),k <= tl/\iv = .int .i64 k/\OffF S3 wj wr/\OInts wr S3 (.slice aty tl cty) (upTo (fun t=>((numN c t.toNat:Nat):Int)) y.term.to k)) (fun iv _=>tl - (intOf iv).toNat)
     case atStart=>exact ⟨0,Nat.zero_le _,rfl,Off.refl _ _,by rw [upTo_zero];exact HTO.out⟩
     case round =>
      obtain ⟨k,hk,rfl,hof,hti⟩:=hrel
      have HOF3:=Lib.hid hof
      have HTI:Hid (Holds [] 0 wr S3 (fun W=>OInts W S3 (.slice aty tl cty) (upTo (fun t=>((numN c t.toNat:Nat):Int)) y.term.to k))):=Lib.hid ⟨hti,fun _ _ h hk=>h.keep hk,hti.lt,fun _ _=>Nat.zero_le _,fun _ _ h=>by cases h⟩
      clear hof hti
      replace HW:=Lib.hid (HW.out.trans (Off.below HOF3.out HW.out.size (fun k _ hk=>by
       rcases HI3.out k hk with h | h
       ·have:=(HSF.out k h).1;omega
       ·have:=HW6.out.size;omega)))
      have hwjr:wj.heap.size <= wr.heap.size:=Off.size HOF3.out

      by_cases hlt2:k < tl
      ·obtain ⟨t,htk⟩ : ∃ t,y.term.to[k]? = some t:=⟨_,List.getElem?_eq_getElem (by have:=HTL.out;omega)⟩
       obtain ⟨hct,ht1,ht2⟩:=HCT.out t (List.mem_of_getElem? htk)
       obtain ⟨tn,rfl⟩ : ∃ tn:Nat,t=tn:=⟨t.toNat,by omega⟩
       rw [Int.toNat_natCast] at hct
       obtain ⟨hup2,hnx2⟩:=upTo_at (g:=fun t:Int=>((numN c t.toNat:Nat):Int)) htk
       obtain ⟨gt,ctt,hvt,hSt,hgtl,hkc,hkf, -⟩:=HTI.out.now.addr hup2
       rw [upTo_len, <-HTL.out] at hvt
       cases hvt
       have z4:=(Off.cell HOF3.out hgkl HNG3.out).trans HK4.out
       have hcN:=(Off.cell HOF3.out (b:=gN) (o:=tn) (by omega) (fun h=>by
        rcases HI3.out _ h with h | h
        ·exact (HSF.out _ h).2 (by simp)
        ·omega)).trans ((Off.cell HOF.out hgN6 (fun h=>(HSF.out _ h).2 (by simp))).trans (HNC.out tn (by omega) hct))
       have htb:tn < nb:=by omega
       have HUP2:=Lib.hid hup2
       have HNX2:=Lib.hid hnx2
       have HST:=Lib.hid hSt
       have hgkr:gk < wr.heap.size:=by omega
       have hgNr:gN < wr.heap.size:=by omega
       have hnn:numN c tn <= tn:=numN_le c tn
       clear hup2 hnx2 hSt hct htk
       go_upto_region 18 with (fail)

       refine wp_region_grow 11 (fun _=>.plain) (by kernel_rfl) (by kernel_rfl) ?_ (fun ν => ?_)
       ·exact fun _=>trivial
       simp only [List.take_succ_cons,List.take_zero,List.drop_succ_cons,List.drop_zero]
       iterate 11 (refine Grow.val (v := ?_) rfl rfl (fun wg hbg hdg => ?_) ?_;rotate_left;(focus ((have z5:=(hbg.cell (p:=⟨gk,j * 6+4,none⟩) hgkr).trans z4;have zN:=(hbg.cell (p:=⟨gN,tn,none⟩) hgNr).trans hcN);clear hbg hdg;first | (go_simp;done) | (go_simp;with_reducible rfl)));simp only [Act.put,List.setIfInBounds_toArray,List.set_cons_zero,List.set_cons_succ])
       intro wg hb hf hap
       clear hap
       replace HTI:=Lib.hid (HTI.out.later hb)
       replace HOF3:=Lib.hid (HOF3.out.later hb)
       replace HW:=Lib.hid (HW.out.trans (hb.mono HW.out.size))
       clear hb
       clear hf z4 hcN hkc hkf
       obtain ⟨gt',ctt',hvt, -, -,hkc,hkf,hset⟩:=HTI.out.now.addr HUP2.out
       rw [upTo_len, <-HTL.out] at hvt
       cases hvt
       have HPUT:=Lib.hid (hset ((numN c tn:Nat):Int) ⟨by omega,by omega⟩)
       have HSET:Hid (Off (Foot.one gt) wg (wg.setCell ⟨gt,k,none⟩ (.int .i64 ((numN c tn:Nat):Int)))):=Lib.hid (Off.set wg ⟨gt,k,none⟩ _)
       clear hset
       go_wp2
       go_roundw
       case rel =>
        refine ⟨k+1,hlt2,by go_num,Off.trans HOF3.out (HSET.out.mono fun q _ hq=>by cases hq;exact HST.out), ?_⟩
        have h8:=HNX2.out
        simp only [Int.toNat_natCast] at h8
        have h9:=HPUT.out
        rw [h8] at h9
        exact h9
       case measure=>simp [intOf];omega
      ·have hkn:k=tl:=by omega
       have HTD:Hid (OInts wr S3 (.slice aty tl cty) (y.term.to.map (fun t=>((numN c t.toNat:Nat):Int)))):=Lib.hid (by
        have h9:=HTI.out.now
        rw [hkn,HTL.out,upTo_all, <-HTL.out] at h9;exact h9)
       obtain ⟨y1,hy1⟩ : ∃ y1,y1=({ y with term := { y.term with to:=y.term.to.map (fun t=>((numN c t.toNat:Nat):Int)) } }:BlockD):=⟨_,rfl⟩
       have HY1:=Lib.hid hy1
       have HOB2:Hid (OBlocks wr Sq (.slice (some ⟨gk,0,none⟩) nk ck) ((upTo (pruneB c) kl j).set j y1)):=Lib.hid (by rw [hy1];exact HCL3.out wr _ HOF3.out HTD.out)
       have HOF4:Hid (OffF Sk w6 wr):=Lib.hid (Off.grow HOF.out HOF3.out (fun q hq=>HI3.out q hq))
       have hup1:((upTo (pruneB c) kl j).set j y1)[j]? = some y1:=by rw [List.getElem?_set,if_pos rfl,if_pos (by rw [upTo_len];have:=HKL.out;omega)]
       have hyp:y1.phis=y.phis:=by rw [hy1]
       clear HTI HTD HCL3 HOB HOF HTO hkn hy1 hgkl
       generalize wr=wk at *

       obtain ⟨gk',cap',apy,aiy2,aty2,cpy,ciy2,cty2,S1,S2,S4,hv,hgkl,hSg,hC,hfr,hph, -, -,i1, -, -, -, -, -,hng,hcl1, -, -⟩:=HOB2.out.open hup1
       rw [List.length_set,upTo_len, <-HKL.out] at hv
       cases hv
       obtain ⟨k0, -, -, -, -, -, -, -, -, -, -, -⟩:=hC
       obtain ⟨pl,hpl⟩ : ∃ pl,pl=y.phis.length:=⟨_,rfl⟩
       rw [hyp] at hph
       rw [hyp, <-hpl] at k0
       rw [<-hpl] at hph
       rw [hyp, <-hpl] at hcl1
       have HPL2:=Lib.hid hpl
       have HPH:=Lib.hid hph
       have HCL1:=Lib.hid hcl1
       have HI1:Hid (∀ k,S1 k -> Sk k \/ w6.heap.size <= k):=Lib.hid (fun k hk=>HSQ.out k (i1 k hk))
       have HNG1:Hid (¬ S1 gk):=Lib.hid hng.1
       have HK0:=Lib.hid k0
       have hpl5:pl <= 100000:=by rw [hpl];exact HSY.out
       have hw6k:w6.heap.size <= wk.heap.size:=by omega
       have HWK:=HW
       clear hph hcl1 i1 hng hpl hSg hup1 hyp
       go_wp2_with fail
       clear k0 hfr
       go_loopw [89] (fun iv wr => ∃ (k:Nat) (Sp:Foot),k <= pl/\iv = .int .i64 k/\OffF S1 wk wr/\OPhis wr Sp (.slice apy pl cpy) (upTo (pruneP c) y.phis k) /\ ∀ q,Sp q -> S1 q \/ wk.heap.size <= q) (fun iv _=>pl - (intOf iv).toNat)
       case atStart=>exact ⟨0,S1,Nat.zero_le _,rfl,Off.refl _ _,by rw [upTo_zero];exact HPH.out,fun k h=>.inl h⟩
       case round =>
        obtain ⟨k,Sp,hk,rfl,hof,hop,hsp⟩:=hrel
        have HOF1:=Lib.hid hof
        have HOP:=Lib.hid hop
        have HSP:=Lib.hid hsp
        clear hof hop hsp
        replace HW:=Lib.hid (HWK.out.trans (Off.below HOF1.out HWK.out.size (fun k _ hk=>by
         rcases HI1.out k hk with h | h
         ·have:=(HSF.out k h).1;omega
         ·have:=HW6.out.size;omega)))
        generalize wr=wp at *
        have hwkp:wk.heap.size <= wp.heap.size:=Off.size HOF1.out

        by_cases hlt3:k < pl
        ·obtain ⟨p,hpk⟩ : ∃ p,y.phis[k]? = some p:=⟨_,List.getElem?_eq_getElem (by have:=HPL2.out;omega)⟩
         obtain ⟨hup,hnx⟩:=upTo_at (g:=pruneP c) hpk
         have HPP:=Lib.hid (HPS.out p (List.mem_of_getElem? hpk))
         obtain ⟨gp,capp,af,av,cf,cv,cs2,G2,Sf,Sv,hv,hgpl,hGg,hGS,hC,hfr,hc2,hc3,hrow,hsf,hsv,iSf,iSv,hfv,hfG,hvG,hclo⟩:=HOP.out.open hup
         simp only [upTo_len, <-HPL2.out] at hv hrow hclo
         cases hv
         obtain ⟨-, -,p2,p3, -, -, -, -⟩:=hC
         obtain ⟨sl,hsl⟩ : ∃ sl,sl=p.src.length:=⟨_,rfl⟩
         have hvl:p.vals.length=sl:=by rw [hsl];exact HPP.out.2.1.symm
         rw [<-hsl] at p2 hsf hc2
         rw [hvl] at p3 hsv hc3
         have HSL2:=Lib.hid hsl
         have hsl5:sl <= 512:=by have:=HPP.out.2.2;omega
         have HNX:=Lib.hid hnx
         have HNX0:=HNX
         have HROW:=Lib.hid hrow
         have HSF2:=Lib.hid hsf
         have HSV2:=Lib.hid hsv
         have HGG2:=Lib.hid hGg
         have HIS:=Lib.hid (And.intro hGS (And.intro iSf iSv))
         have HFV:=Lib.hid (And.intro hfv (And.intro hfG hvG))
         have HCLO:=Lib.hid hclo
         have HP23:=Lib.hid (And.intro p2 p3)
         have HFR:=Lib.hid hfr
         have z0:=(Off.cell HOF1.out hgkl HNG1.out).trans HK0.out
         clear hup hnx hpk hsl hrow hsf hsv hGS iSf iSv hGg hfv hfG hvG hclo hc2 hc3 hfr p3
         go_wp2_with fail
         clear z0 p2
         have HWP:=HW
         go_loopw [14,15,103] (fun fv vv iv wr => ∃ (jj n:Nat) (T1 T2:Foot) (a1 a2:Option Addr) (c1 c2:Nat),jj <= sl/\iv = .int .i64 jj/\fv = .slice a1 n c1/\vv = .slice a2 n c2/\Below wp.heap.size wp wr/\OInts wr T1 (.slice a1 n c1) (srcTo c p jj)/\OInts wr T2 (.slice a2 n c2) (valTo c p jj)/\T1.off T2/\Fresh wp.heap.size T1/\Fresh wp.heap.size T2/\n <= jj/\(srcTo c p jj).length=n/\(valTo c p jj).length=n) (fun _ _ iv _=>sl - (intOf iv).toNat)
         case atStart=>exact ⟨0,0,Foot.none,Foot.none,none,none,0,0,Nat.zero_le _,rfl,rfl,rfl,Below.refl _ _,OInts.nil none,OInts.nil none,fun _ h=>h.elim,fun _ h=>h.elim,fun _ h=>h.elim,Nat.le_refl _,rfl,rfl⟩
         case round =>
          obtain ⟨jj,n,T1,T2,a1,a2,c1,c2,hjj,rfl,rfl,rfl,hbw,ht1,ht2,h12,hf1,hf2,hnj,hl1,hl2⟩:=hrel
          have HBW:=Lib.hid hbw
          have HT1:=Lib.hid ht1
          have HT2:=Lib.hid ht2
          have H12:=Lib.hid h12
          have HF12:=Lib.hid (And.intro hf1 hf2)
          replace HW:=Lib.hid (HWP.out.trans (Below.mono hbw HWP.out.size))
          have hwpr:wp.heap.size <= wr.heap.size:=hbw.size
          clear hbw ht1 ht2 h12 hf1 hf2

          by_cases hlt4:jj < sl
          ·obtain ⟨q,hq⟩ : ∃ q,p.src[jj]? = some q:=⟨_,List.getElem?_eq_getElem (by have:=HSL2.out;omega)⟩
           obtain ⟨pv,hpv⟩ : ∃ pv,p.vals[jj]? = some pv:=⟨_,List.getElem?_eq_getElem (by omega)⟩
           obtain ⟨hq0,hqn⟩:=HPP.out.1 q (List.mem_of_getElem? hq)
           obtain ⟨qn,rfl⟩ : ∃ qn:Nat,q=qn:=⟨q.toNat,by omega⟩
           have hstep:=to_step (c:=c) hq hpv
           rw [Int.toNat_natCast] at hstep
           have HSTEP:=Lib.hid hstep
           obtain ⟨gs,cgs,hvs,hSgs,hgsl,hcs, -, -⟩:=HSF2.out.addr hq
           rw [<-HSL2.out] at hvs
           cases hvs
           obtain ⟨z,hz,hzc⟩:=HPL.out qn (by omega)
           obtain ⟨lG,cG,fG⟩:=HBG.out.later HW.out
           have hzr:=(HW.out.cell (p:=⟨lb,lo+qn,none⟩) hlw).trans hz
           have hcq:=(HBW.out.cell (p:=⟨gs,jj,none⟩) hgsl).trans hcs
           have hqb:qn < nb:=by omega
           clear hstep hcs hz hSgs hq
           cases hci:c qn
           ·have hzz:decide (0 <= z)=false:=hzc.trans hci
            have hS:=HSTEP.out
            rw [hci] at hS
            simp only [Bool.false_eq_true,if_false] at hS
            have HS:=Lib.hid hS
            clear hS hzc hci hpv
            go_wp2
            go_roundw
            case rel=>exact ⟨jj+1,n,T1,T2,a1,a2,c1,c2,hlt4,by go_num,rfl,rfl,HBW.out,by rw [HS.out.1];exact HT1.out,by rw [HS.out.2];exact HT2.out,H12.out,HF12.out.1,HF12.out.2,by omega,by rw [HS.out.1];exact hl1,by rw [HS.out.2];exact hl2⟩
            case measure=>simp [intOf];omega
           ·have hzz:decide (0 <= z)=true:=hzc.trans hci
            have hS:=HSTEP.out
            rw [hci] at hS
            simp only [if_true] at hS
            have HS:=Lib.hid hS
            have hnw:=HNC.out qn hqb hci
            have hNk:=(Off.cell HOF4.out hgN6 (fun h=>(HSF.out _ h).2 (by simp))).trans hnw
            have hNp:=(Off.cell HOF1.out (b:=gN) (o:=qn) (by omega) (fun h=>by
             rcases HI1.out _ h with h | h
             ·exact (HSF.out _ h).2 (by simp)
             ·omega)).trans hNk
            have hNr:=(HBW.out.cell (p:=⟨gN,qn,none⟩) (by show gN < wp.heap.size;omega)).trans hNp
            obtain ⟨gv,cgv,hvv,hSgv,hgvl,hcv, -, -⟩:=HSV2.out.addr hpv
            rw [hvl] at hvv
            cases hvv
            have hp64:In64 pv:=HSV2.out.2 pv (List.mem_of_getElem? hpv)
            have hcvr:=(HBW.out.cell (p:=⟨gv,jj,none⟩) hgvl).trans hcv
            have hp3r:=(HBW.out.cell (p:=⟨gp,k * 4+3,none⟩) hgpl).trans HP23.out.2
            have hni:In64 ((numN c qn:Nat):Int):=by have:=numN_le c qn;exact ⟨by omega,by omega⟩
            obtain ⟨XF,hX6,hX16,hXQ⟩ : ∃ XF:Nat -> Foot,(∀ k,XF 6 k ↔ T1 k)/\(∀ k,XF 16 k ↔ T2 k) /\ ∀ q k,XF q k -> q=6 \/ q=16 :=
             ⟨fun q=>if q=6 then T1 else if q=16 then T2 else Foot.none,fun k=>by simp,fun k=>by simp,fun q k h=>by
              by_cases e:q=6
              ·exact .inl e
              ·by_cases e2:q=16
               ·exact .inr e2
               ·simp only [if_neg e,if_neg e2] at h;exact h.elim⟩
            have HX:=Lib.hid (And.intro hX6 (And.intro hX16 hXQ))
            have HL1:Hid (∀ k,T1 k -> k < wr.heap.size):=Lib.hid HT1.out.lt
            have HL2:Hid (∀ k,T2 k -> k < wr.heap.size):=Lib.hid HT2.out.lt
            have N6:Hid (∀ k,(T1 k \/ wr.heap.size <= k) -> ∀ q,q ≠ 6 -> ¬ XF q k):=Lib.hid (fun k hk q hq hx=>by
             rcases HX.out.2.2 q k hx with e | e
             ·exact hq e
             ·subst e
              have h1:=(HX.out.2.1 k).1 hx
              rcases hk with hk | hk
              ·exact H12.out k hk h1
              ·have:=HL2.out k h1;omega)
            have N16:Hid (∀ k,(T2 k \/ wr.heap.size <= k) -> ∀ q,q ≠ 16 -> ¬ XF q k):=Lib.hid (fun k hk q hq hx=>by
             rcases HX.out.2.2 q k hx with e | e
             ·subst e
              have h1:=(HX.out.1 k).1 hx
              rcases hk with hk | hk
              ·exact H12.out k h1 hk
              ·have:=HL1.out k h1;omega
             ·exact hq e)
            have NXF:Hid (∀ q k,XF q k -> wp.heap.size <= k):=Lib.hid (fun q k hx=>by
             rcases HX.out.2.2 q k hx with e | e
             ·subst e;exact HF12.out.1 k ((HX.out.1 k).1 hx)
             ·subst e;exact HF12.out.2 k ((HX.out.2.1 k).1 hx))
            have xW:∀ q k,XF q k -> k < wr.heap.size:=fun q k h=>by
             rcases HX.out.2.2 q k h with e | e
             ·subst e;exact HL1.out k ((HX.out.1 k).1 h)
             ·subst e;exact HL2.out k ((HX.out.2.1 k).1 h)
            have xI:∀ w w' : World,True -> Below w.heap.size w w' -> True:=fun _ _ _ _=>trivial
            have xI0:True:=trivial
            have xBASE:∀ k,k < wr.heap.size -> Four.All XF k -> w.heap.size <= k:=fun k _ ⟨q,h⟩=>by have:=NXF.out q k h;have:=HWP.out.size;omega
            have hgNr:gN < wp.heap.size:=by omega
            clear hX6 hX16 hXQ hcv hnw hNk hNp hpv hSgv hzc hci hS
            go_upto_region 29 with (fail)
            clear lG cG fG hzr hcq hzz


            refine Four.wp_region_grow (XF:=XF) (I:=(fun _=>True)) 17 (fun ν kz=>match kz with | 5=>.made wr.heap.size (fun b=>.slice (some ⟨b,0,none⟩) 1 1) #[.int .i64 ((numN c qn:Nat):Int)] | 6=>.holds (fun u w' => ∃ (g1 c1:Nat),u = .slice (some ⟨g1,0,none⟩) (n+1) c1/\OInts w' (Foot.one g1) u (srcTo c p jj ++ [((numN c qn:Nat):Int)])/\(T1 g1 \/ wr.heap.size <= g1)) | 15=>.made wr.heap.size (fun b=>.slice (some ⟨b,0,none⟩) 1 1) #[.int .i64 pv] | 16=>.holds (fun u w' => ∃ (g1 c1:Nat),u = .slice (some ⟨g1,0,none⟩) (n+1) c1/\OInts w' (Foot.one g1) u (valTo c p jj ++ [pv])/\(T2 g1 \/ wr.heap.size <= g1) /\ ∀ g8 c8, ν 6 = .slice (some ⟨g8,0,none⟩) (n+1) c8 -> g1 ≠ g8) | _=>.plain) (by kernel_rfl) (by kernel_rfl) ?_ ?_ xW xI xI0 ?_ (fun ν => ?_)
            ·(intro ν k;(try dsimp only);split <;> first | exact True.intro | (intro u w1 w2 hu hb;first | (obtain ⟨g1,c1,e1,h1,h2⟩:=hu;exact ⟨g1,c1,e1,h1.off hb (fun k hk ⟨q,hq,hx⟩=>by cases hk;exact N6.out g1 h2 q hq hx),h2⟩) | (obtain ⟨g1,c1,e1,h1,h2,h3⟩:=hu;exact ⟨g1,c1,e1,h1.off hb (fun k hk ⟨q,hq,hx⟩=>by cases hk;exact N16.out g1 h2 q hq hx),h2,h3⟩)))
            ·(intro ν ν' k h;first | rfl | ((try dsimp only);split <;> first | rfl | (rw [h 6 (by kernel_rfl)])))
            ·(intro ν j B mk A h;(try dsimp only at h);split at h <;> first | (cases h;exact Nat.le_refl _) | cases h)
            simp only [List.take_succ_cons,List.take_zero,List.drop_succ_cons,List.drop_zero]
            iterate 4 (refine Four.Grow.val (v := ?_) rfl rfl (fun wg hbg hdg => ?_) ?_;rotate_left;(focus (clear hbg hdg;first | (go_simp;done) | (go_simp;with_reducible rfl)));simp only [Act.put,List.setIfInBounds_toArray,List.set_cons_zero,List.set_cons_succ])
            refine Four.Grow.val (v := ?_) rfl rfl (fun wg hbg hdg => ?_) ?_
            rotate_left
            focus ((have zN:=(hbg.1.cell (b:=gN) (o:=qn) (by omega) (fun ⟨q,h1,h2,h3⟩=>by have:=NXF.out q _ h3;omega)).trans hNr);clear hbg hdg;first | (go_simp;done) | (go_simp;with_reducible rfl))
            simp only [Act.put,List.setIfInBounds_toArray,List.set_cons_zero,List.set_cons_succ]
            refine Four.Grow.made (T := ?_) rfl rfl (fun wg hbg hdg => ?_) ?_
            rotate_left
            focus (clear hbg hdg;first | (go_simp;done) | (go_simp;with_reducible rfl))
            simp only [Act.put,Known.val,List.setIfInBounds_toArray,List.set_cons_zero,List.set_cons_succ]
            refine Four.Grow.gives rfl (fun wg hbg hdg => ?_) ?_
            focus ((obtain ⟨bx,e5,hbx,hB5⟩:=hdg 5 (by kernel_rfl));simp only [e5];exact gives_iapp2 (xs:=srcTo c p jj) (n:=n) _ _ rfl rfl rfl hl1 (HT1.out.off hbg.1 (fun k hk ⟨q,hq,_,hx⟩=>N6.out k (.inl hk) q hq hx)) hB5 hni (by omega) (fun k hk=>(HX.out.1 k).2 hk) (fun g1 c1 w'' h2 h3=>⟨g1,c1,rfl,h2,h3.imp_right (Nat.le_trans hbg.1.size)⟩))
            simp only [Act.put,Known.val,List.setIfInBounds_toArray,List.set_cons_zero,List.set_cons_succ]
            iterate 4 (refine Four.Grow.val (v := ?_) rfl rfl (fun wg hbg hdg => ?_) ?_;rotate_left;(focus (clear hbg hdg;first | (go_simp;done) | (go_simp;with_reducible rfl)));simp only [Act.put,List.setIfInBounds_toArray,List.set_cons_zero,List.set_cons_succ])
            refine Four.Grow.val (v := ?_) rfl rfl (fun wg hbg hdg => ?_) ?_
            rotate_left
            focus ((have z3:=(hbg.1.cell (b:=gp) (o:=k * 4+3) (by omega) (fun ⟨q,h1,h2,h3⟩=>by have:=NXF.out q _ h3;omega)).trans hp3r);clear hbg hdg;first | (go_simp;done) | (go_simp;with_reducible rfl))
            simp only [Act.put,List.setIfInBounds_toArray,List.set_cons_zero,List.set_cons_succ]
            iterate 2 (refine Four.Grow.val (v := ?_) rfl rfl (fun wg hbg hdg => ?_) ?_;rotate_left;(focus (clear hbg hdg;first | (go_simp;done) | (go_simp;with_reducible rfl)));simp only [Act.put,List.setIfInBounds_toArray,List.set_cons_zero,List.set_cons_succ])
            refine Four.Grow.val (v := ?_) rfl rfl (fun wg hbg hdg => ?_) ?_
            rotate_left
            focus ((have z4:=(hbg.1.cell (b:=gv) (o:=jj) (by omega) (fun ⟨q,h1,h2,h3⟩=>by have:=NXF.out q _ h3;omega)).trans hcvr);clear hbg hdg;first | (go_simp;done) | (go_simp;with_reducible rfl))
            simp only [Act.put,List.setIfInBounds_toArray,List.set_cons_zero,List.set_cons_succ]
            refine Four.Grow.made (T := ?_) rfl rfl (fun wg hbg hdg => ?_) ?_
            rotate_left
            focus (clear hbg hdg;first | (go_simp;done) | (go_simp;with_reducible rfl))
            simp only [Act.put,Known.val,List.setIfInBounds_toArray,List.set_cons_zero,List.set_cons_succ]
            refine Four.Grow.gives rfl (fun wg hbg hdg => ?_) ?_
            focus ((obtain ⟨bx,e15,hbx,hB15⟩:=hdg 15 (by kernel_rfl));(have h6:∃ (g1 c1:Nat), ν 6 = .slice (some ⟨g1,0,none⟩) (n+1) c1/\OInts wg (Foot.one g1) (ν 6) (srcTo c p jj ++ [((numN c qn:Nat):Int)])/\(T1 g1 \/ wr.heap.size <= g1):=hdg 6 (by kernel_rfl));(obtain ⟨g6,c6,e6,o6,q6⟩:=h6);simp only [e15];exact gives_iapp2 (xs:=valTo c p jj) (n:=n) _ _ rfl rfl rfl hl2 (HT2.out.off hbg.1 (fun k hk ⟨q,hq,_,hx⟩=>N16.out k (.inl hk) q hq hx)) hB15 hp64 (by omega) (fun k hk=>(HX.out.2.1 k).2 hk) (fun g1 c1 w'' h2 h3=>⟨g1,c1,rfl,h2,h3.imp_right (Nat.le_trans hbg.1.size),fun g' c' e'=>by rw [e6] at e';cases e';intro e9;subst e9;have hlt6:=o6.lt _ rfl;rcases h3 with h3 | h3;(rcases q6 with q6 | q6;exact H12.out _ q6 h3;have:=HL2.out _ h3;omega);omega⟩))
            simp only [Act.put,Known.val,List.setIfInBounds_toArray,List.set_cons_zero,List.set_cons_succ]
            intro wg hb hf hap
            obtain ⟨bBX,hνBX,hBBX,hXBX⟩:=hf 5 (by omega)
            obtain ⟨bBY,hνBY,hBBY,hXBY⟩:=hf 15 (by omega)
            have nBXBY:bBX ≠ bBY:=fun e=>hap 5 15 (by omega) (by omega) (by omega) rfl rfl (by rw [hνBX,hνBY,e])
            have nBYBX:bBY ≠ bBX:=fun e=>hap 15 5 (by omega) (by omega) (by omega) rfl rfl (by rw [hνBY,hνBX,e])
            simp only [hνBX,hνBY]
            clear hνBX hνBY
            clear hap
            have gBX:=Nat.le_trans HW.out.size hBBX
            clear hBBX
            have gBY:=Nat.le_trans HW.out.size hBBY
            clear hBBY
            replace HW:=Lib.hid (HW.out.trans (hb.1.below HW.out.size xBASE))
            have BX:=Lib.hid hXBX
            clear hXBX
            have BY:=Lib.hid hXBY
            clear hXBY
            obtain ⟨lBX,cBX,fBX⟩:=BX.out
            obtain ⟨lBY,cBY,fBY⟩:=BY.out
            simp only [Nat.zero_add,Nat.reduceAdd]
            have h6:∃ (g1 c1:Nat), ν 6 = .slice (some ⟨g1,0,none⟩) (n+1) c1/\OInts wg (Foot.one g1) (ν 6) (srcTo c p jj ++ [((numN c qn:Nat):Int)])/\(T1 g1 \/ wr.heap.size <= g1):=hf 6 (by omega)
            have h16:∃ (g1 c1:Nat), ν 16 = .slice (some ⟨g1,0,none⟩) (n+1) c1/\OInts wg (Foot.one g1) (ν 16) (valTo c p jj ++ [pv])/\(T2 g1 \/ wr.heap.size <= g1) /\ ∀ g8 c8, ν 6 = .slice (some ⟨g8,0,none⟩) (n+1) c8 -> g1 ≠ g8:=hf 16 (by omega)
            obtain ⟨g6,c6,e6,o6,q6⟩:=h6
            obtain ⟨g16,c16,e16,o16,q16,n16⟩:=h16
            have hne:=n16 g6 c6 e6
            rw [e6] at o6
            rw [e16] at o16
            simp only [e6,e16]
            have HWG:Hid (Below wp.heap.size wp wg):=Lib.hid (HBW.out.trans (Off.below hb.1 HBW.out.size (fun k _ ⟨q,h⟩=>NXF.out q k h)))
            have HO6:=Lib.hid o6
            have HO16:=Lib.hid o16
            have HG6:Hid (wp.heap.size <= g6/\wp.heap.size <= g16/\g6 ≠ g16):=Lib.hid ⟨q6.elim (HF12.out.1 _) (fun h=>by omega),q16.elim (HF12.out.2 _) (fun h=>by omega),fun e=>hne e.symm⟩
            clear hf hb e6 e16 o6 o16 q6 q16 n16 hne
            go_wp2
            go_roundw
            case rel =>
             refine ⟨jj+1,n+1,Foot.one g6,Foot.one g16,some ⟨g6,0,none⟩,some ⟨g16,0,none⟩,c6,c16,hlt4,by go_num,rfl,rfl,HWG.out,by rw [HS.out.1];exact HO6.out,by rw [HS.out.2];exact HO16.out,fun k h1 h2 => ?_,fun k hk=>by cases hk;exact HG6.out.1,fun k hk=>by cases hk;exact HG6.out.2.1,by omega,by rw [HS.out.1,List.length_append,hl1];rfl,by rw [HS.out.2,List.length_append,hl2];rfl⟩
             cases h1;exact HG6.out.2.2 h2
            case measure=>simp [intOf];omega
          ·have hjn:jj=sl:=by omega
           have hta:=to_all (c:=c) (p:=p) HPP.out.2.1
           rw [<-HSL2.out] at hta
           have HA1:Hid (OInts wr T1 (.slice a1 n c1) (pruneP c p).src):=Lib.hid (by have h9:=HT1.out;rw [hjn,hta.1] at h9;exact h9)
           have HA2:Hid (OInts wr T2 (.slice a2 n c2) (pruneP c p).vals):=Lib.hid (by have h9:=HT2.out;rw [hjn,hta.2] at h9;exact h9)
           have hp2r:=(HBW.out.cell (p:=⟨gp,k * 4+2,none⟩) hgpl).trans HP23.out.1
           have hp3r:=(HBW.out.cell (p:=⟨gp,k * 4+3,none⟩) hgpl).trans HP23.out.2
           have hfrr:∀ o,wr.frozen? ⟨gp,o,none⟩=false:=fun o=>(HBW.out.frozen (p:=⟨gp,o,none⟩) hgpl).trans (HFR.out o)
           have HROWR:=Lib.hid (HROW.out.off (Off.of_below HBW.out Foot.none) (fun _ _ h=>h))
           have HOFW:Hid (Off (Foot.one gp) wr ((wr.setCell ⟨gp,k * 4+2,none⟩ (.slice a1 n c1)).setCell ⟨gp,k * 4+3,none⟩ (.slice a2 n c2))):=Lib.hid ((Off.set wr ⟨gp,k * 4+2,none⟩ _).trans (Off.set _ ⟨gp,k * 4+3,none⟩ _))
           have hT:∀ q,(T1 q \/ T2 q) -> ¬ Foot.one gp q:=fun q hq h=>by
            cases h
            rcases hq with hq | hq
            ·have:=HF12.out.1 _ hq;omega
            ·have:=HF12.out.2 _ hq;omega
           have HNEW:Hid (OPhis ((wr.setCell ⟨gp,k * 4+2,none⟩ (.slice a1 n c1)).setCell ⟨gp,k * 4+3,none⟩ (.slice a2 n c2)) (fun q=>Sp q \/ T1 q \/ T2 q) (.slice (some ⟨gp,0,none⟩) pl cpy) (upTo (pruneP c) y.phis (k+1))):=Lib.hid (by
            have h9:=HCLO.out ((wr.setCell ⟨gp,k * 4+2,none⟩ (.slice a1 n c1)).setCell ⟨gp,k * 4+3,none⟩ (.slice a2 n c2)) (.slice a1 n c1) (.slice a2 n c2) (pruneP c p).src (pruneP c p).vals T1 T2
             ((Off.of_below HBW.out _).trans (HOFW.out.mono fun q _ hq=>by cases hq;exact .inl HGG2.out))
             ((HROWR.out.set rfl (by omega) (k * 4+2) _).set rfl (by omega) (k * 4+3) _)
             (HA1.out.off HOFW.out fun q h1 h2=>hT q (.inl h1) h2) (HA2.out.off HOFW.out fun q h1 h2=>hT q (.inr h1) h2) H12.out
             (fun q hq=>.inr (HF12.out.1 q hq)) (fun q hq=>.inr (HF12.out.2 q hq))
            rw [<-HNX.out]
            exact h9)
           clear hjn hta hT
           go_wp2
           go_roundw
           case rel =>
            refine ⟨k+1,_,hlt3,by go_num,Off.grow (Off.trans HOF1.out (Off.of_below HBW.out _)) HOFW.out (fun q hq=>by cases hq;exact HSP.out _ (HIS.out.1 _ HGG2.out)),HNEW.out,fun q hq => ?_⟩
            rcases hq with hq | hq | hq
            ·exact HSP.out q hq
            ·have:=HF12.out.1 q hq;right;omega
            ·have:=HF12.out.2 q hq;right;omega
           case measure=>simp [intOf];omega
        ·have hkn:k=pl:=by omega
         have HMAP:Hid (OPhis wp Sp (.slice apy pl cpy) (y.phis.map (pruneP c))):=Lib.hid (by
          have h9:=HOP.out
          rw [hkn,HPL2.out,upTo_all, <-HPL2.out] at h9;exact h9)
         have HOB3:Hid (OBlocks wp (fun q=>Sq q \/ Sp q) (.slice (some ⟨gk,0,none⟩) nk ck) (upTo (pruneB c) kl (j+1))):=Lib.hid (by
          have h9:=HCL1.out wp Sp _ HOF1.out HMAP.out HSP.out
          rw [List.set_set,HY1.out] at h9
          rw [<-HNX.out]
          exact h9)
         have HOF5:Hid (OffF Sk w6 wp):=Lib.hid (Off.grow HOF4.out HOF1.out (fun q hq=>HI1.out q hq))
         clear HMAP HOP hkn
         go_wp2
         go_roundw
         case rel =>
          refine ⟨j+1,_,hlt,by go_num,HOF5.out,HOB3.out,fun q hq => ?_⟩
          rcases hq with hq | hq
          ·exact HSQ.out q hq
          ·rcases HSP.out q hq with hq | hq
           ·exact HI1.out q hq
           ·right;omega
         case measure=>simp [intOf];omega
    ·have hjn:j=nk:=by omega
     have HBF0:Hid (OBlocks wj Sq (.slice ak nk ck) (prunedF f).blocks):=Lib.hid (by
      have h9:=HOB.out
      rw [hjn,HKL.out,upTo_all, <-HKL.out,HKLD.out,HCD.out] at h9
      exact h9)
     have HFREE:Hid (∀ k,Sq k -> k ∉ [w3.heap.size,w.heap.size]/\w.heap.size+1 <= k):=Lib.hid (fun k hk=>by
      rcases HSQ.out k hk with h | h
      ·exact ⟨fun hm=>(HSF.out k h).2 (List.mem_cons_of_mem _ hm),(HSF.out k h).1⟩
      ·exact ⟨by simp;omega,by have:=HW6.out.size;omega⟩)
     have HBF:Hid (Holds [w3.heap.size,w.heap.size] (w.heap.size+1) wj Sq (fun W=>OBlocks W Sq (.slice ak nk ck) (prunedF f).blocks)):=Lib.hid ⟨HBF0.out,fun _ _ h hk=>h.keep OBlock.nice hk,HBF0.out.lt,fun k hk=>(HFREE.out k hk).2,fun k hk=>(HFREE.out k hk).1⟩
     have HQF:Hid (SQ.off Sq):=Lib.hid (fun k h1 h2=>by
      rcases HSQ.out k h2 with h | h
      ·exact HQK.out k h1 h
      ·have:=HSB.out.2.2.2 k h1;omega)
     have HQ:Hid (Holds [w3.heap.size,w.heap.size] (w.heap.size+1) wj SQ (fun W=>OInts W SQ (.slice pa2 np pc2) f.params)):=Lib.hid (HQ6.out.off HOF.out (fun k h1 h2=>HQK.out k h1 h2))
     clear HBF0 HOB hjn HFREE HQ6




     obtain ⟨lB2,cB2,fB2⟩:=B2.out
     obtain ⟨lB3,cB3,fB3⟩:=B3.out
     have nB3B2' : w3.heap.size ≠ w.heap.size:=by omega
     have nB2B3' : w.heap.size ≠ w3.heap.size:=by omega
     go_upto_region 35 with (fail)
     have B2_:Box (wj.setCell ⟨w3.heap.size,3,none⟩ (.slice ak nk ck)) (w.heap.size) #[.slice none 0 0,.int .i64 0,.int .i64 0,.slice none 0 0]:=by simpa using (B2.out.other (p:=⟨w3.heap.size,3,none⟩) (.slice ak nk ck) (by first | assumption | (simp;done) | omega | (dsimp only;omega)))
     have B3_:Box (wj.setCell ⟨w3.heap.size,3,none⟩ (.slice ak nk ck)) (w3.heap.size) #[.slice pa2 np pc2,.int .i64 ar,.int .i64 ce,(.slice ak nk ck)]:=by simpa using (B3.out.set 3 (.slice ak nk ck))
     have HQ_:=(HQ.out.other (p:=⟨w3.heap.size,3,none⟩) (.slice ak nk ck) (by simp))
     have HBF_:=(HBF.out.other (p:=⟨w3.heap.size,3,none⟩) (.slice ak nk ck) (by simp))
     have HW_:Below w.heap.size w (wj.setCell ⟨w3.heap.size,3,none⟩ (.slice ak nk ck)):=(HW.out.setCell (p:=⟨w3.heap.size,3,none⟩) (by first | assumption | omega | (dsimp only;omega) | (have:=HW.out.size;omega) | (simp;done) | (simp;omega)) (.slice ak nk ck))
     clear lB2 cB2 fB2 lB3 cB3 fB3
     clear B2 B3 HQ HBF HW
     generalize (wj.setCell ⟨w3.heap.size,3,none⟩ (.slice ak nk ck))=w8 at *
     have B2:=Lib.hid B2_
     clear B2_
     have B3:=Lib.hid B3_
     clear B3_
     have HQ:=Lib.hid HQ_
     clear HQ_
     have HBF:=Lib.hid HBF_
     clear HBF_
     have HW:=Lib.hid HW_
     clear HW_
     obtain ⟨lB2,cB2,fB2⟩:=B2.out
     obtain ⟨lB3,cB3,fB3⟩:=B3.out
     go_wp2
     have B2_:Box ((((w8.setCell ⟨w.heap.size,0,none⟩ (.slice pa2 np pc2)).setCell ⟨w.heap.size,1,none⟩ (.int .i64 ar)).setCell ⟨w.heap.size,2,none⟩ (.int .i64 ce)).setCell ⟨w.heap.size,3,none⟩ (.slice ak nk ck)) (w.heap.size) #[(.slice pa2 np pc2),(.int .i64 ar),(.int .i64 ce),(.slice ak nk ck)]:=by simpa using ((((B2.out.set 0 (.slice pa2 np pc2)).set 1 (.int .i64 ar)).set 2 (.int .i64 ce)).set 3 (.slice ak nk ck))
     have B3_:Box ((((w8.setCell ⟨w.heap.size,0,none⟩ (.slice pa2 np pc2)).setCell ⟨w.heap.size,1,none⟩ (.int .i64 ar)).setCell ⟨w.heap.size,2,none⟩ (.int .i64 ce)).setCell ⟨w.heap.size,3,none⟩ (.slice ak nk ck)) (w3.heap.size) #[.slice pa2 np pc2,.int .i64 ar,.int .i64 ce,(.slice ak nk ck)]:=by simpa using ((((B3.out.other (p:=⟨w.heap.size,0,none⟩) (.slice pa2 np pc2) (by first | assumption | (simp;done) | omega | (dsimp only;omega))).other (p:=⟨w.heap.size,1,none⟩) (.int .i64 ar) (by first | assumption | (simp;done) | omega | (dsimp only;omega))).other (p:=⟨w.heap.size,2,none⟩) (.int .i64 ce) (by first | assumption | (simp;done) | omega | (dsimp only;omega))).other (p:=⟨w.heap.size,3,none⟩) (.slice ak nk ck) (by first | assumption | (simp;done) | omega | (dsimp only;omega)))
     have HQ_:=((((HQ.out.other (p:=⟨w.heap.size,0,none⟩) (.slice pa2 np pc2) (by simp)).other (p:=⟨w.heap.size,1,none⟩) (.int .i64 ar) (by simp)).other (p:=⟨w.heap.size,2,none⟩) (.int .i64 ce) (by simp)).other (p:=⟨w.heap.size,3,none⟩) (.slice ak nk ck) (by simp))
     have HBF_:=((((HBF.out.other (p:=⟨w.heap.size,0,none⟩) (.slice pa2 np pc2) (by simp)).other (p:=⟨w.heap.size,1,none⟩) (.int .i64 ar) (by simp)).other (p:=⟨w.heap.size,2,none⟩) (.int .i64 ce) (by simp)).other (p:=⟨w.heap.size,3,none⟩) (.slice ak nk ck) (by simp))
     have HW_:Below w.heap.size w ((((w8.setCell ⟨w.heap.size,0,none⟩ (.slice pa2 np pc2)).setCell ⟨w.heap.size,1,none⟩ (.int .i64 ar)).setCell ⟨w.heap.size,2,none⟩ (.int .i64 ce)).setCell ⟨w.heap.size,3,none⟩ (.slice ak nk ck)):=((((HW.out.setCell (p:=⟨w.heap.size,0,none⟩) (by first | assumption | omega | (dsimp only;omega) | (have:=HW.out.size;omega) | (simp;done) | (simp;omega)) (.slice pa2 np pc2)).setCell (p:=⟨w.heap.size,1,none⟩) (by first | assumption | omega | (dsimp only;omega) | (have:=HW.out.size;omega) | (simp;done) | (simp;omega)) (.int .i64 ar)).setCell (p:=⟨w.heap.size,2,none⟩) (by first | assumption | omega | (dsimp only;omega) | (have:=HW.out.size;omega) | (simp;done) | (simp;omega)) (.int .i64 ce)).setCell (p:=⟨w.heap.size,3,none⟩) (by first | assumption | omega | (dsimp only;omega) | (have:=HW.out.size;omega) | (simp;done) | (simp;omega)) (.slice ak nk ck))
     clear lB2 cB2 fB2 lB3 cB3 fB3
     clear B2 B3 HQ HBF HW
     generalize ((((w8.setCell ⟨w.heap.size,0,none⟩ (.slice pa2 np pc2)).setCell ⟨w.heap.size,1,none⟩ (.int .i64 ar)).setCell ⟨w.heap.size,2,none⟩ (.int .i64 ce)).setCell ⟨w.heap.size,3,none⟩ (.slice ak nk ck))=w9 at *
     have B2:=Lib.hid B2_
     clear B2_
     have B3:=Lib.hid B3_
     clear B3_
     have HQ:=Lib.hid HQ_
     clear HQ_
     have HBF:=Lib.hid HBF_
     clear HBF_
     have HW:=Lib.hid HW_
     clear HW_
     obtain ⟨lB2,cB2,fB2⟩:=B2.out
     obtain ⟨lB3,cB3,fB3⟩:=B3.out
     refine bodyPost_ret (v:=.agg #[.slice pa2 np pc2,.int .i64 ar,.int .i64 ce,.slice ak nk ck]) (by simp [results,Try.results33,go_sem, *]) rfl ⟨_,fun q=>SQ q \/ Sq q,rfl,⟨⟨_,_,SQ,Sq,by rw [HAC.out.1,HAC.out.2];rfl,HQ.out.now,HBF.out.now,HQF.out,fun k h=>.inl h,fun k h=>.inr h⟩,fun k hk=>hk.elim (HQ.out.lt k) (HBF.out.lt k),H64.out.1,H64.out.2⟩,fun k hk => ?_,HW.out⟩
     rcases hk with hk | hk
     ·have:=HQ.out.base k hk;omega
     ·have:=HBF.out.base k hk;omega
end Go.Proofs.Ytblgdccoeecodaa
