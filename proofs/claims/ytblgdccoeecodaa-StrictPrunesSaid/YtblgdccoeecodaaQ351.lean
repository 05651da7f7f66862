/- What the claim needs,part 51. -/
import Derived.Test.YtblgdccoeecodaaQ350
import Derived.Test.YtblgdccoeecodaaQ334
import Derived.Test.YtblgdccoeecodaaQ338
namespace Go.Proofs.Ytblgdccoeecodaa
set_option linter.unusedSimpArgs false
set_option linter.unusedVariables false
open Go.RowKit
def numL (c:Nat -> Bool) (d:Nat):List Int:=(List.range d).map fun e=>((numN c e:Nat):Int)
theorem numL_succ (c:Nat -> Bool) (d:Nat):numL c (d+1)=numL c d ++ [((numN c d:Nat):Int)]:=by
 unfold numL;rw [List.range_succ,List.map_append];rfl
theorem numL_len (c:Nat -> Bool) (d:Nat):(numL c d).length=d:=by simp [numL]
theorem numL_at {c:Nat -> Bool} {n d:Nat} (h:d < n):(numL c n)[d]? = some ((numN c d:Nat):Int):=by
 unfold numL;rw [List.getElem?_map,List.getElem?_range h];rfl
private theorem Since.alloc {w0 W:World} (h:Since w0 W) (o:Obj):Since w0 (W.alloc o):=h.later ((Below.refl _ _).alloc (Nat.le_refl _) o)
set_option maxHeartbeats 25600000 in
set_option maxRecDepth 100000 in
theorem refPrune {w:World} {v:Value} {f:FuncD} (hv:FuncV w v f):Calls Try.prog 14 #[v] w (PruneR f w):=by
 have HV:=Lib.hid hv
 obtain ⟨ap,cp,ab,cb,rfl,hp,ha,hc64,hB⟩:=hv.form
 obtain ⟨a2,c2,bb,bo,hbe,hbc,hbm,hbl,hba,hbx⟩:=blocks_parts hB
 cases hbe
 obtain ⟨np,hnp⟩ : ∃ np,np=f.params.length:=⟨_,rfl⟩
 obtain ⟨ar,har⟩ : ∃ ar,ar=f.arrays:=⟨_,rfl⟩
 obtain ⟨ce,hce⟩ : ∃ ce,ce=f.cells:=⟨_,rfl⟩
 obtain ⟨nb,hnb⟩ : ∃ nb,nb=f.blocks.length:=⟨_,rfl⟩
 rw [<-hnb, <-hnp, <-har, <-hce] at HV
 rw [<-hnb] at hbc hba hbl
 rw [<-hnb, <-hnp, <-har, <-hce]
 have HNB:=Lib.hid hnb
 have HNP:=Lib.hid hnp
 have HAC:Hid (ar=f.arrays/\ce=f.cells):=Lib.hid ⟨har,hce⟩
 have HBA:=Lib.hid hba
 have HBX:=Lib.hid hbx
 have HA64:=Lib.hid (And.intro ha hc64)
 clear hp ha hc64 hB hv hbx hnp hnb hba har hce
 go_enter Try.func14,Try.ntmps14
 go_upto_region 1 with (fail)
 have B1:Hid (Box ((w.alloc (.cells #[.slice ap np cp,.int .i64 ar,.int .i64 ce,.slice ab nb cb] 25)).alloc (.cells #[.slice none 0 0,.int .i64 0,.int .i64 0,.slice none 0 0] 25)) (w.heap.size) #[.slice ap np cp,.int .i64 ar,.int .i64 ce,.slice ab nb cb]):=Lib.hid (by simpa using ((Box.new w #[.slice ap np cp,.int .i64 ar,.int .i64 ce,.slice ab nb cb] 25).alloc _))
 have B2:Hid (Box ((w.alloc (.cells #[.slice ap np cp,.int .i64 ar,.int .i64 ce,.slice ab nb cb] 25)).alloc (.cells #[.slice none 0 0,.int .i64 0,.int .i64 0,.slice none 0 0] 25)) (w.heap.size+1) #[.slice none 0 0,.int .i64 0,.int .i64 0,.slice none 0 0]):=Lib.hid (by simpa using (Box.new (w.alloc (.cells #[.slice ap np cp,.int .i64 ar,.int .i64 ce,.slice ab nb cb] 25)) #[.slice none 0 0,.int .i64 0,.int .i64 0,.slice none 0 0] 25))
 have HW:Hid (Below w.heap.size w ((w.alloc (.cells #[.slice ap np cp,.int .i64 ar,.int .i64 ce,.slice ab nb cb] 25)).alloc (.cells #[.slice none 0 0,.int .i64 0,.int .i64 0,.slice none 0 0] 25))):=Lib.hid (((Below.refl _ _).alloc (Nat.le_refl _) _).alloc (by simp) _)
 generalize ((w.alloc (.cells #[.slice ap np cp,.int .i64 ar,.int .i64 ce,.slice ab nb cb] 25)).alloc (.cells #[.slice none 0 0,.int .i64 0,.int .i64 0,.slice none 0 0] 25))=wv at *
 obtain ⟨lB1,cB1,fB1⟩:=B1.out
 obtain ⟨lB2,cB2,fB2⟩:=B2.out
 go_wp2_with fail
 refine (refCheck (HV.out.below HW.out)).mono ?_
 rintro e w1 ⟨rfl,hb⟩
 clear lB1 cB1 fB1 lB2 cB2 fB2
 replace B1:=Lib.hid (B1.out.later hb)
 replace B2:=Lib.hid (B2.out.later hb)
 replace HW:=Lib.hid (HW.out.trans (hb.mono HW.out.size))
 clear hb
 obtain ⟨lB1,cB1,fB1⟩:=B1.out
 obtain ⟨lB2,cB2,fB2⟩:=B2.out
 by_cases hc0:checkF f=0
 rotate_left
 ·have HWHY:Hid (pruneF f=(zeroF,checkF f)):=Lib.hid (pruneF_bad hc0)
  have hc1:(checkF f != 0)=true:=by simpa using hc0
  clear hc0
  go_wp2
  have B1_:Box ((((w1.setCell ⟨w.heap.size+1,0,none⟩ (.slice none 0 0)).setCell ⟨w.heap.size+1,1,none⟩ (.int .i64 0)).setCell ⟨w.heap.size+1,2,none⟩ (.int .i64 0)).setCell ⟨w.heap.size+1,3,none⟩ (.slice none 0 0)) (w.heap.size) #[.slice ap np cp,.int .i64 ar,.int .i64 ce,.slice ab nb cb]:=by simpa using ((((B1.out.other (p:=⟨w.heap.size+1,0,none⟩) (.slice none 0 0) (by first | assumption | (simp;done) | omega | (dsimp only;omega))).other (p:=⟨w.heap.size+1,1,none⟩) (.int .i64 0) (by first | assumption | (simp;done) | omega | (dsimp only;omega))).other (p:=⟨w.heap.size+1,2,none⟩) (.int .i64 0) (by first | assumption | (simp;done) | omega | (dsimp only;omega))).other (p:=⟨w.heap.size+1,3,none⟩) (.slice none 0 0) (by first | assumption | (simp;done) | omega | (dsimp only;omega)))
  have B2_:Box ((((w1.setCell ⟨w.heap.size+1,0,none⟩ (.slice none 0 0)).setCell ⟨w.heap.size+1,1,none⟩ (.int .i64 0)).setCell ⟨w.heap.size+1,2,none⟩ (.int .i64 0)).setCell ⟨w.heap.size+1,3,none⟩ (.slice none 0 0)) (w.heap.size+1) #[(.slice none 0 0),(.int .i64 0),(.int .i64 0),(.slice none 0 0)]:=by simpa using ((((B2.out.set 0 (.slice none 0 0)).set 1 (.int .i64 0)).set 2 (.int .i64 0)).set 3 (.slice none 0 0))
  have HW_:Below w.heap.size w ((((w1.setCell ⟨w.heap.size+1,0,none⟩ (.slice none 0 0)).setCell ⟨w.heap.size+1,1,none⟩ (.int .i64 0)).setCell ⟨w.heap.size+1,2,none⟩ (.int .i64 0)).setCell ⟨w.heap.size+1,3,none⟩ (.slice none 0 0)):=((((HW.out.setCell (p:=⟨w.heap.size+1,0,none⟩) (by first | assumption | omega | (dsimp only;omega) | (have:=HW.out.size;omega) | (simp;done) | (simp;omega)) (.slice none 0 0)).setCell (p:=⟨w.heap.size+1,1,none⟩) (by first | assumption | omega | (dsimp only;omega) | (have:=HW.out.size;omega) | (simp;done) | (simp;omega)) (.int .i64 0)).setCell (p:=⟨w.heap.size+1,2,none⟩) (by first | assumption | omega | (dsimp only;omega) | (have:=HW.out.size;omega) | (simp;done) | (simp;omega)) (.int .i64 0)).setCell (p:=⟨w.heap.size+1,3,none⟩) (by first | assumption | omega | (dsimp only;omega) | (have:=HW.out.size;omega) | (simp;done) | (simp;omega)) (.slice none 0 0))
  clear lB1 cB1 fB1 lB2 cB2 fB2
  clear B1 B2 HW
  generalize ((((w1.setCell ⟨w.heap.size+1,0,none⟩ (.slice none 0 0)).setCell ⟨w.heap.size+1,1,none⟩ (.int .i64 0)).setCell ⟨w.heap.size+1,2,none⟩ (.int .i64 0)).setCell ⟨w.heap.size+1,3,none⟩ (.slice none 0 0))=wz at *
  have B1:=Lib.hid B1_
  clear B1_
  have B2:=Lib.hid B2_
  clear B2_
  have HW:=Lib.hid HW_
  clear HW_
  obtain ⟨lB1,cB1,fB1⟩:=B1.out
  obtain ⟨lB2,cB2,fB2⟩:=B2.out
  refine bodyPost_ret (v:=.tuple #[.agg #[.slice none 0 0,.int .i64 0,.int .i64 0,.slice none 0 0],.int .i64 (checkF f)]) (by simp [results,Try.results14,go_sem, *]) rfl ⟨_,Foot.none,by rw [HWHY.out],by rw [HWHY.out];exact OFunc.zero,fun _ h=>h.elim,HW.out⟩
 have HC0:=Lib.hid hc0
 have hc1:(checkF f != 0)=false:=by simpa using hc0
 have HF:=Lib.hid (check_fine hc0).1
 obtain ⟨hn1,h512⟩:=formB_nb HF.out
 rw [<-HNB.out] at hn1 h512
 have HSZ:=Lib.hid (block_sizes hc0)
 obtain ⟨rfl,hbw⟩:=HBA.out (by omega)

 clear hc0
 go_wp2_with fail
 clear hc1
 refine (refWithout (gone := -1) (HV.out.below HW.out) HF.out).mono ?_
 rintro e w2 ⟨wv2,S,rfl,hS,hBo,hb⟩
 obtain ⟨c,hcd⟩ : ∃ c,c=comeF f:=⟨_,rfl⟩
 have HCD:=Lib.hid hcd
 obtain ⟨sa,sc,sb,so,hse,hsc,hsm,hsa,hsx⟩:=hBo.parts
 have hsl:S.length=nb:=by rw [HNB.out];exact hS.1
 rw [hsl] at hse hsc hsa
 subst hse
 obtain ⟨rfl,hsw⟩:=hsa (by omega)
 have HCO:Hid (∀ d,d < nb -> w2.cell? ⟨sb,so+d,none⟩=some (.bool (c d))):=Lib.hid (fun d hd=>by
  obtain ⟨x,hx⟩ : ∃ x,S[d]? = some x:=⟨_,List.getElem?_eq_getElem (by omega)⟩
  have:x=c d:=by
   rw [hcd,Bool.eq_iff_iff,come_iff, <-hS.2 d,hx]
   simp
  rw [<-this];exact hsx d x hx)
 clear hBo hsx hS hsl hsa hcd
 clear lB1 cB1 fB1 lB2 cB2 fB2
 replace B1:=Lib.hid (B1.out.later hb)
 replace B2:=Lib.hid (B2.out.later hb)
 replace HW:=Lib.hid (HW.out.trans (hb.mono HW.out.size))
 clear hb
 obtain ⟨lB1,cB1,fB1⟩:=B1.out
 obtain ⟨lB2,cB2,fB2⟩:=B2.out
 obtain ⟨WB,hWB⟩ : ∃ WB,WB=w2:=⟨_,rfl⟩
 rw [<-hWB] at HCO
 have hsW:sb < WB.heap.size:=by rw [hWB];exact hsw
 have HS:Hid (Since WB w2):=Lib.hid (by rw [hWB];exact Below.refl _ _)
 have hWw:w.heap.size+2 <= WB.heap.size:=by rw [hWB];omega
 have B1B:Hid (Box WB w.heap.size #[.slice ap np cp,.int .i64 ar,.int .i64 ce,.slice (some ⟨bb,bo,none⟩) nb cb]):=by rw [hWB];exact B1
 have B2B:Hid (Box WB (w.heap.size+1) #[.slice none 0 0,.int .i64 0,.int .i64 0,.slice none 0 0]):=by rw [hWB];exact B2
 have HWB:Hid (Below w.heap.size w WB):=by rw [hWB];exact HW
 clear hWB hsw
 go_upto_region 6 with (fail)
 replace HS:=Lib.hid (HS.out.later ((Below.refl _ _).alloc (Nat.le_refl _) (.cells #[] 3)))
 generalize w2.alloc (.cells #[] 3)=w3 at *
 clear lB1 cB1 fB1 lB2 cB2 fB2
 clear HW B1 B2
 obtain ⟨an0,can0,hn0⟩ : ∃ (a:Option Addr) (n:Nat),a=some ⟨w2.heap.size,0,none⟩/\n=0:=⟨_,_,rfl,rfl⟩
 rw [<-hn0.1]
 clear hn0
 go_wp2_with fail
 go_loopw [6,7,8] (fun nv kv dv wr => ∃ (d:Nat) (T:Foot) (a:Option Addr) (cn:Nat),d <= nb/\dv = .int .i64 d/\kv = .int .i64 (numN c d:Nat)/\nv = .slice a d cn/\Since WB wr/\OInts wr T (.slice a d cn) (numL c d)/\Fresh WB.heap.size T) (fun _ _ dv _=>nb - (intOf dv).toNat)
 case atStart=>exact ⟨0,Foot.none,an0,0,Nat.zero_le _,rfl,rfl,rfl,HS.out,OInts.nil an0,fun _ h=>h.elim⟩
 case round =>
  obtain ⟨d,T,a,cn,hd,rfl,rfl,rfl,hs,hn,hfr⟩:=hrel
  replace HS:=Lib.hid hs
  have HN:=Lib.hid hn
  have HFR:=Lib.hid hfr
  clear hs hn hfr
  by_cases hlt:d < nb
  ·have hnd:numN c d <= d:=numN_le c d
   obtain ⟨nd,hnde⟩ : ∃ nd,nd=numN c d:=⟨_,rfl⟩
   have HND:=Lib.hid hnde
   rw [<-hnde] at hnd ⊢
   clear hnde
   have hni:In64 (nd:Int):=⟨by omega,by omega⟩
   have hlen:=numL_len c d
   have hsWr:WB.heap.size <= wr.heap.size:=Below.size HS.out
   go_upto_region 11 with (at_builtin;go_loud (refine wpList_iapp rfl _ _ rfl rfl rfl hlen (HN.out.off (Off.alloc Foot.none wr _) (fun _ _ h=>h)) (Box.new _ _ _) hni (by omega) ?_);intro g1 c1 w10 q1 q2 q3)
   have HS10:Hid (Since WB w10):=Lib.hid (Below.trans (HS.out.later ((Below.refl _ _).alloc (Nat.le_refl _) (.cells #[.int .i64 (nd:Int)] 3))) (q3.below (by simp;omega) (fun k _ hk=>HFR.out k hk)))
   have HN10:Hid (OInts w10 (Foot.one g1) (.slice (some ⟨g1,0,none⟩) (d+1) c1) (numL c (d+1))):=Lib.hid (by rw [numL_succ, <-HND.out];exact q1)
   have HF10:Hid (Fresh WB.heap.size (Foot.one g1)):=Lib.hid (fun k hk=>by
    cases hk
    rcases q2 with h | h
    ·exact HFR.out _ h
    ·simp at h;omega)
   have zc:=(Below.cell HS10.out (p:=⟨sb,so+d,none⟩) hsW).trans (HCO.out d hlt)
   clear q1 q2 q3 HN HFR hlen
   cases hci:c d
   ·rw [hci] at zc
    have hnn:numN c (d+1)=nd:=by rw [numN_succ,hci,HND.out];rfl
    have HNN:=Lib.hid hnn
    clear hnn hci
    go_wp2
    go_roundw
    case rel=>exact ⟨d+1,_,_,_,hlt,by go_num,by rw [HNN.out],rfl,HS10.out,HN10.out,HF10.out⟩
    case measure=>simp [intOf];omega
   ·rw [hci] at zc
    have hnn:numN c (d+1)=nd+1:=by rw [numN_succ,hci,HND.out];rfl
    have HNN:=Lib.hid hnn
    clear hnn hci
    go_wp2
    go_roundw
    case rel=>exact ⟨d+1,_,_,_,hlt,by go_num,by rw [HNN.out];go_num,rfl,HS10.out,HN10.out,HF10.out⟩
    case measure=>simp [intOf];omega
  ·have hdn:d=nb:=by omega
   rw [hdn] at HN ⊢
   obtain ⟨na,nc,gN,oN,hne, -, -,hna,hnx⟩:=HN.out.ints.parts
   rw [numL_len] at hne hna hnx
   cases hne
   obtain ⟨rfl,hgNl⟩:=hna (by omega)
   have HNC:Hid (∀ t,t < nb -> wr.cell? ⟨gN,oN+t,none⟩=some (.int .i64 ((numN c t:Nat):Int))):=Lib.hid (fun t ht=>by rw [hnx t ht,getD_some (numL_at ht)])
   clear hnx hna HN HFR hdn
   generalize wr=WN at *
   have HSB:=HS
   have HWN:Hid (Below w.heap.size w WN):=Lib.hid (HWB.out.trans (Below.mono HSB.out HWB.out.size))
   have B1N:=Lib.hid (B1B.out.later HSB.out)
   have B2N:=Lib.hid (B2B.out.later HSB.out)
   have HW:=HWN
   have B1:=B1N
   have B2:=B2N
   have hWBN:WB.heap.size <= WN.heap.size:=Below.size HSB.out
   clear HS
   have HS:Hid (Since WN WN):=Lib.hid (Below.refl _ _)




   obtain ⟨lB1,cB1,fB1⟩:=B1.out
   obtain ⟨lB2,cB2,fB2⟩:=B2.out
   go_wp2_with fail
   refine (refCopy (HV.out.below HW.out) HSZ.out.1 HSZ.out.2).mono ?_
   rintro e w4 ⟨vo,SO,rfl,hO,hFr,hb⟩
   obtain ⟨⟨pa,bv,SQ,SB,rfl,hQ,hOB,hQB,hsq,hsb⟩,hlt2, -, -⟩:=hO
   obtain ⟨pa2,pc2,rfl⟩:=hQ.ints.form
   have HQ:Hid (Holds [] WN.heap.size w4 SQ (fun W=>OInts W SQ (.slice pa2 np pc2) f.params)):=Lib.hid (by
    have h9:=holds_ints hQ (fun k hk=>hFr k (hsq k hk))
    rw [<-HNP.out] at h9;exact h9)
   obtain ⟨g,cap,hbv⟩ : ∃ g cap,bv = .slice (some ⟨g,0,none⟩) nb cap:=by
    obtain ⟨cs,G,F,hp⟩:=hOB
    obtain ⟨g,cap,hv, -⟩:=hp.row.addr (by have:=HNB.out;omega)
    exact ⟨g,cap,by rw [HNB.out];exact hv⟩
   subst hbv
   rw [<-HAC.out.1, <-HAC.out.2, <-HNP.out]
   clear hQ hOB hQB hsq hsb hlt2 hFr
   have hWN4:WN.heap.size <= w4.heap.size:=hb.size
   replace HS:=Lib.hid (HS.out.later hb)
   clear lB1 cB1 fB1 lB2 cB2 fB2
   replace B1:=Lib.hid (B1.out.later hb)
   replace B2:=Lib.hid (B2.out.later hb)
   replace HW:=Lib.hid (HW.out.trans (hb.mono HW.out.size))
   clear hb
   obtain ⟨lB1,cB1,fB1⟩:=B1.out
   obtain ⟨lB2,cB2,fB2⟩:=B2.out
   replace HQ:=Lib.hid (HQ.out.more (Nat.le_refl w4.heap.size))
   obtain ⟨b9,hb9⟩ : ∃ b9,b9=w4.heap.size:=⟨_,rfl⟩
   rw [<-hb9] at HQ

   go_upto_region 15 with (fail)
   have nB9B1:w4.heap.size ≠ w.heap.size:=fun e=>by have:=lB1;omega
   have nB1B9:w.heap.size ≠ w4.heap.size:=fun e=>nB9B1 e.symm
   have nB9B2:w4.heap.size ≠ w.heap.size+1:=fun e=>by have:=lB2;omega
   have nB2B9:w.heap.size+1 ≠ w4.heap.size:=fun e=>nB9B2 e.symm
   have B1_:Box (w4.alloc (.cells #[.slice pa2 np pc2,.int .i64 ar,.int .i64 ce,.slice none 0 0] 25)) (w.heap.size) #[.slice ap np cp,.int .i64 ar,.int .i64 ce,.slice (some ⟨bb,bo,none⟩) nb cb]:=by simpa using (B1.out.alloc _)
   have B2_:Box (w4.alloc (.cells #[.slice pa2 np pc2,.int .i64 ar,.int .i64 ce,.slice none 0 0] 25)) (w.heap.size+1) #[.slice none 0 0,.int .i64 0,.int .i64 0,.slice none 0 0]:=by simpa using (B2.out.alloc _)
   have B9_:Box (w4.alloc (.cells #[.slice pa2 np pc2,.int .i64 ar,.int .i64 ce,.slice none 0 0] 25)) (w4.heap.size) #[.slice pa2 np pc2,.int .i64 ar,.int .i64 ce,.slice none 0 0]:=by simpa using (Box.new w4 #[.slice pa2 np pc2,.int .i64 ar,.int .i64 ce,.slice none 0 0] 25)
   have HQ_:=(HQ.out.alloc (.cells #[.slice pa2 np pc2,.int .i64 ar,.int .i64 ce,.slice none 0 0] 25))
   have HS_:=(HS.out.alloc (.cells #[.slice pa2 np pc2,.int .i64 ar,.int .i64 ce,.slice none 0 0] 25))
   have HW_:Below w.heap.size w (w4.alloc (.cells #[.slice pa2 np pc2,.int .i64 ar,.int .i64 ce,.slice none 0 0] 25)):=(HW.out.alloc (by first | exact Nat.le_refl _ | exact HW.out.size | (simp only [World.size_alloc,World.size_setCell];have:=HW.out.size;omega)) _)
   clear lB1 cB1 fB1 lB2 cB2 fB2
   clear B1 B2 HQ HS HW
   generalize (w4.alloc (.cells #[.slice pa2 np pc2,.int .i64 ar,.int .i64 ce,.slice none 0 0] 25))=w5 at *
   have B1:=Lib.hid B1_
   clear B1_
   have B2:=Lib.hid B2_
   clear B2_
   have B9:=Lib.hid B9_
   clear B9_
   have HQ:=Lib.hid HQ_
   clear HQ_
   have HS:=Lib.hid HS_
   clear HS_
   have HW:=Lib.hid HW_
   clear HW_
   obtain ⟨lB1,cB1,fB1⟩:=B1.out
   obtain ⟨lB2,cB2,fB2⟩:=B2.out
   obtain ⟨lB9,cB9,fB9⟩:=B9.out
   rw [<-hb9] at B9 ⊢
   have hb9N:WN.heap.size <= b9:=by omega
   clear lB1 cB1 fB1 lB2 cB2 fB2 lB9 cB9 fB9
   clear nB9B1 nB1B9 nB9B2 nB2B9 hb9 hWN4 HW B1 B2
   go_wp2_with fail
   go_loopw [10] (fun dv wr => ∃ (d:Nat) (Sk:Foot) (ak:Option Addr) (ck:Nat),d <= nb/\dv = .int .i64 d/\Since WN wr/\Box wr b9 #[.slice pa2 np pc2,.int .i64 ar,.int .i64 ce,.slice ak (numN c d) ck]/\Holds [b9] WN.heap.size wr SQ (fun W=>OInts W SQ (.slice pa2 np pc2) f.params) /\
    Holds [b9] WN.heap.size wr Sk (fun W=>OBlocks W Sk (.slice ak (numN c d) ck) ((keptB c f d).map (pruneB c)))/\SQ.off Sk) (fun dv _=>nb - (intOf dv).toNat)
   case atStart=>exact ⟨0,Foot.none,none,0,Nat.zero_le _,rfl,HS.out,B9.out,HQ.out,⟨OSl.nil none,fun _ _ h hk=>h.keep OBlock.nice hk,fun k h=>h.elim,fun k h=>h.elim,fun k h=>h.elim⟩,fun _ _ h=>h.elim⟩
   case round =>
    obtain ⟨d,Sk,ak,ck,hd,rfl,hs,hb9,hq,hk,hqk⟩:=hrel
    replace HS:=Lib.hid hs
    replace B9:=Lib.hid hb9
    replace HQ:=Lib.hid hq
    have HK:=Lib.hid hk
    have HQK:=Lib.hid hqk
    clear hs hb9 hq hk hqk
    have HW:Hid (Below w.heap.size w wr):=Lib.hid (HWN.out.trans (Below.mono HS.out HWN.out.size))
    have B1:=Lib.hid (B1N.out.later HS.out)
    generalize wr=wd at *
    have hWNd:WN.heap.size <= wd.heap.size:=Below.size HS.out

    by_cases hlt:d < nb
    ·obtain ⟨x,hx⟩ : ∃ x,f.blocks[d]? = some x:=⟨_,List.getElem?_eq_getElem (by have:=HNB.out;omega)⟩
     obtain ⟨api,aii,ati,cpi,cii,cti,hC⟩:=HBX.out d x hx
     have HBV:=Lib.hid hC.blockV
     have HSX:=Lib.hid (HSZ.out.1 x (List.mem_of_getElem? hx))
     obtain ⟨k0,k1,k2,k3,k4,k5, -, -, -, -, -, -⟩:=hC.below HW.out hbw
     have zc:=(Below.cell HS.out (p:=⟨sb,so+d,none⟩) (by show sb < WN.heap.size;omega)).trans ((Below.cell HSB.out (p:=⟨sb,so+d,none⟩) hsW).trans (HCO.out d hlt))
     have HX:=Lib.hid hx
     clear hC hx


     cases hci:c d
     ·rw [hci] at zc
      have HNN:Hid (numN c (d+1)=numN c d):=Lib.hid (by rw [numN_succ,hci];rfl)
      have HKK:Hid (keptB c f (d+1)=keptB c f d):=Lib.hid (by rw [kept_succ HX.out,hci];rfl)
      clear hci
      go_wp2
      go_roundw
      case rel=>exact ⟨d+1,Sk,ak,ck,hlt,by go_num,HS.out,by rw [HNN.out];exact B9.out,HQ.out,by rw [HNN.out,HKK.out];exact HK.out,HQK.out⟩
      case measure=>simp [intOf];omega
     ·rw [hci] at zc
      have HNN:Hid (numN c (d+1)=numN c d+1):=Lib.hid (by rw [numN_succ,hci];rfl)
      have HKK:Hid (keptB c f (d+1)=keptB c f d ++ [x]):=Lib.hid (by rw [kept_succ HX.out,hci];rfl)
      have HCT:Hid (∀ t ∈ x.term.to,1 <= t/\t < nb):=Lib.hid (fun t ht=>by
       have h9:=formB_to HF.out HX.out t ht
       rw [<-HNB.out] at h9;exact h9)
      have HPS:Hid (∀ p ∈ x.phis,(∀ q ∈ p.src,0 <= q/\q < nb)/\p.src.length=p.vals.length/\p.vals.length <= 512):=Lib.hid (fun p hp=>⟨fun q hq=>by have:=phi_src HF.out HX.out hp q hq;have:=HNB.out;omega,(even_of HF.out).phi x (List.mem_of_getElem? HX.out) p hp⟩)
      clear hci
      obtain ⟨nd,hnd⟩ : ∃ nd,nd=numN c d:=⟨_,rfl⟩
      have HND:=Lib.hid hnd
      have hnd5:nd <= d:=by rw [hnd];exact numN_le c d
      rw [<-hnd] at B9 HK
      clear hnd


      have HKLd:Hid (∀ k,Sk k -> k < wd.heap.size):=Lib.hid HK.out.lt
      have HQLd:Hid (∀ k,SQ k -> k < wd.heap.size):=Lib.hid HQ.out.lt
      have hb9d:b9 < wd.heap.size:=B9.out.lt
      obtain ⟨lB1,cB1,fB1⟩:=B1.out
      obtain ⟨lB9,cB9,fB9⟩:=B9.out
      go_wp2_with fail
      clear k0 k1 k2 k3 k4 k5 zc
      refine (refCopyBlock (HBV.out.below HW.out) HSX.out.1 HSX.out.2).mono ?_
      rintro e w7 ⟨pv,uv,tv,SX,rfl,hO,hF,hb⟩
      obtain ⟨⟨_,_,_,S1,S2,S3,he,o1,o2,o3,h12,h13,h23,i1,i2,i3⟩, -⟩:=hO
      cases he
      obtain ⟨⟨tv',he6,o4⟩,q1,q2,q3⟩:=o3
      cases he6
      obtain ⟨apy,cpy,rfl⟩:=(o1.reads (R0:=PhiR) fun _ _ _ h=>h.reads).form
      obtain ⟨aiy,ciy,rfl⟩:=(o2.reads (R0:=InstrR) fun _ _ _ h=>h.reads).form
      obtain ⟨aty,cty,rfl⟩:=o4.ints.form
      obtain ⟨tl,htl⟩ : ∃ tl,tl=x.term.to.length:=⟨_,rfl⟩
      obtain ⟨pl,hpl⟩ : ∃ pl,pl=x.phis.length:=⟨_,rfl⟩
      obtain ⟨il,hil⟩ : ∃ il,il=x.code.length:=⟨_,rfl⟩
      rw [<-htl] at o4
      rw [<-hpl] at o1
      rw [<-hil] at o2
      rw [<-htl, <-hpl, <-hil]
      have HTL:=Lib.hid htl
      have HPL:=Lib.hid hpl
      have HIL:=Lib.hid hil
      have H64:=Lib.hid (And.intro q1 (And.intro q2 q3))
      have HP1:Hid (Holds [] wd.heap.size w7 S1 (fun W=>OPhis W S1 (.slice apy pl cpy) x.phis)):=Lib.hid (holds_sl OPhi.nice o1 (fun k hk=>hF k (i1 k hk)))
      have HC2:Hid (Holds [] wd.heap.size w7 S2 (fun W=>OCode W S2 (.slice aiy il ciy) x.code)):=Lib.hid (holds_sl OInstr.nice o2 (fun k hk=>hF k (i2 k hk)))
      have HT3:Hid (Holds [] wd.heap.size w7 S3 (fun W=>OInts W S3 (.slice aty tl cty) x.term.to)):=Lib.hid (holds_ints o4 (fun k hk=>hF k (i3 k hk)))
      have H123:=Lib.hid (And.intro h12 (And.intro h13 h23))
      have hpl5:pl <= 100000:=by rw [hpl];exact HSX.out.1
      have htl16:tl <= 17592186044416:=by rw [htl];rw [htl] at o4;exact o4.ints.le
      clear o1 o2 o4 h12 h13 h23 i1 i2 i3 q1 q2 q3 htl hpl hil hF
      replace HQ:=Lib.hid (HQ.out.later hb)
      replace HK:=Lib.hid (HK.out.later hb)
      have hwd7:wd.heap.size <= w7.heap.size:=hb.size
      have HKL7:Hid (∀ k,Sk k -> k < w7.heap.size):=Lib.hid HK.out.lt
      replace HS:=Lib.hid (HS.out.later hb)

      clear lB1 cB1 fB1 lB9 cB9 fB9
      replace B1:=Lib.hid (B1.out.later hb)
      replace B9:=Lib.hid (B9.out.later hb)
      replace HW:=Lib.hid (HW.out.trans (hb.mono HW.out.size))
      clear hb
      obtain ⟨lB1,cB1,fB1⟩:=B1.out
      obtain ⟨lB9,cB9,fB9⟩:=B9.out

      have HS7:Hid (∀ k,(S1 k \/ S2 k \/ S3 k) -> wd.heap.size <= k/\k < w7.heap.size):=Lib.hid (fun k hk=>by
       rcases hk with hk | hk | hk
       ·exact ⟨HP1.out.base k hk,HP1.out.lt k hk⟩
       ·exact ⟨HC2.out.base k hk,HC2.out.lt k hk⟩
       ·exact ⟨HT3.out.base k hk,HT3.out.lt k hk⟩)
      go_upto_region 20 with (fail)
      have nBXB1:w7.heap.size ≠ w.heap.size:=fun e=>by have:=lB1;omega
      have nB1BX:w.heap.size ≠ w7.heap.size:=fun e=>nBXB1 e.symm
      have nBXB9:w7.heap.size ≠ b9:=fun e=>by have:=lB9;omega
      have nB9BX:b9 ≠ w7.heap.size:=fun e=>nBXB9 e.symm
      have B1_:Box (w7.alloc (.cells #[.slice apy pl cpy,.slice aiy il ciy,.int .i64 x.term.op,.int .i64 x.term.val,.slice aty tl cty,.int .i64 x.term.n] 56)) (w.heap.size) #[.slice ap np cp,.int .i64 ar,.int .i64 ce,.slice (some ⟨bb,bo,none⟩) nb cb]:=by simpa using (B1.out.alloc _)
      have B9_:Box (w7.alloc (.cells #[.slice apy pl cpy,.slice aiy il ciy,.int .i64 x.term.op,.int .i64 x.term.val,.slice aty tl cty,.int .i64 x.term.n] 56)) (b9) #[.slice pa2 np pc2,.int .i64 ar,.int .i64 ce,.slice ak nd ck]:=by simpa using (B9.out.alloc _)
      have BX_:Box (w7.alloc (.cells #[.slice apy pl cpy,.slice aiy il ciy,.int .i64 x.term.op,.int .i64 x.term.val,.slice aty tl cty,.int .i64 x.term.n] 56)) (w7.heap.size) #[.slice apy pl cpy,.slice aiy il ciy,.int .i64 x.term.op,.int .i64 x.term.val,.slice aty tl cty,.int .i64 x.term.n]:=by simpa using (Box.new w7 #[.slice apy pl cpy,.slice aiy il ciy,.int .i64 x.term.op,.int .i64 x.term.val,.slice aty tl cty,.int .i64 x.term.n] 56)
      have HQ_:=(HQ.out.alloc (.cells #[.slice apy pl cpy,.slice aiy il ciy,.int .i64 x.term.op,.int .i64 x.term.val,.slice aty tl cty,.int .i64 x.term.n] 56))
      have HK_:=(HK.out.alloc (.cells #[.slice apy pl cpy,.slice aiy il ciy,.int .i64 x.term.op,.int .i64 x.term.val,.slice aty tl cty,.int .i64 x.term.n] 56))
      have HS_:=(HS.out.alloc (.cells #[.slice apy pl cpy,.slice aiy il ciy,.int .i64 x.term.op,.int .i64 x.term.val,.slice aty tl cty,.int .i64 x.term.n] 56))
      have HP1_:=(HP1.out.alloc (.cells #[.slice apy pl cpy,.slice aiy il ciy,.int .i64 x.term.op,.int .i64 x.term.val,.slice aty tl cty,.int .i64 x.term.n] 56))
      have HC2_:=(HC2.out.alloc (.cells #[.slice apy pl cpy,.slice aiy il ciy,.int .i64 x.term.op,.int .i64 x.term.val,.slice aty tl cty,.int .i64 x.term.n] 56))
      have HT3_:=(HT3.out.alloc (.cells #[.slice apy pl cpy,.slice aiy il ciy,.int .i64 x.term.op,.int .i64 x.term.val,.slice aty tl cty,.int .i64 x.term.n] 56))
      have HW_:Below w.heap.size w (w7.alloc (.cells #[.slice apy pl cpy,.slice aiy il ciy,.int .i64 x.term.op,.int .i64 x.term.val,.slice aty tl cty,.int .i64 x.term.n] 56)):=(HW.out.alloc (by first | exact Nat.le_refl _ | exact HW.out.size | (simp only [World.size_alloc,World.size_setCell];have:=HW.out.size;omega)) _)
      clear lB1 cB1 fB1 lB9 cB9 fB9
      clear B1 B9 HQ HK HS HP1 HC2 HT3 HW
      generalize (w7.alloc (.cells #[.slice apy pl cpy,.slice aiy il ciy,.int .i64 x.term.op,.int .i64 x.term.val,.slice aty tl cty,.int .i64 x.term.n] 56))=wj at *
      have B1:=Lib.hid B1_
      clear B1_
      have B9:=Lib.hid B9_
      clear B9_
      have BX:=Lib.hid BX_
      clear BX_
      have HQ:=Lib.hid HQ_
      clear HQ_
      have HK:=Lib.hid HK_
      clear HK_
      have HS:=Lib.hid HS_
      clear HS_
      have HP1:=Lib.hid HP1_
      clear HP1_
      have HC2:=Lib.hid HC2_
      clear HC2_
      have HT3:=Lib.hid HT3_
      clear HT3_
      have HW:=Lib.hid HW_
      clear HW_
      obtain ⟨lB1,cB1,fB1⟩:=B1.out
      obtain ⟨lB9,cB9,fB9⟩:=B9.out
      obtain ⟨lBX,cBX,fBX⟩:=BX.out
      clear lB1 cB1 fB1 lB9 cB9 fB9 lBX cBX fBX
      obtain ⟨bx,hbx⟩ : ∃ bx,bx=w7.heap.size:=⟨_,rfl⟩
      rw [<-hbx] at BX HS7 HKL7 hwd7 ⊢
      clear nBXB1 nB1BX nBXB9 nB9BX hbx
      have hbxj:bx < wj.heap.size:=BX.out.lt
      have HBXj:=BX
      have HWj:=HW
      have HSj:=HS
      have B9j:=B9
      have B1j:=B1
      have hSN:∀ k,(S1 k \/ S2 k \/ S3 k) -> WN.heap.size <= k:=fun k hk=>by have:=(HS7.out k hk).1;omega
      have HSN:=Lib.hid hSN
      have HNj:Hid (∀ t,t < nb -> wj.cell? ⟨gN,oN+t,none⟩=some (.int .i64 ((numN c t:Nat):Int))):=Lib.hid (fun t ht=>(Below.cell HSj.out (p:=⟨gN,oN+t,none⟩) hgNl).trans (HNC.out t ht))
      have HCj:Hid (∀ t,t < nb -> wj.cell? ⟨sb,so+t,none⟩=some (.bool (c t))):=Lib.hid (fun t ht=>(Below.cell HSj.out (p:=⟨sb,so+t,none⟩) (by show sb < WN.heap.size;omega)).trans ((Below.cell HSB.out (p:=⟨sb,so+t,none⟩) hsW).trans (HCO.out t ht)))
      have hwWj:w.heap.size <= WN.heap.size:=HWN.out.size
      have hNj:WN.heap.size <= wj.heap.size:=Below.size HSj.out
      clear hSN HS HW B1 B9
      have HW:=HWj
      go_wp2_with fail
      go_loopw [12] (fun iv wr => ∃ (k:Nat),k <= tl/\iv = .int .i64 k/\OffF S3 wj wr/\OInts wr S3 (.slice aty tl cty) (upTo (fun t=>((numN c t.toNat:Nat):Int)) x.term.to k)) (fun iv _=>tl - (intOf iv).toNat)
      case atStart=>exact ⟨0,Nat.zero_le _,rfl,Off.refl _ _,by rw [upTo_zero];exact HT3.out.now⟩
      case round =>
       obtain ⟨k,hk,rfl,hof,hti⟩:=hrel
       have HOF3:=Lib.hid hof
       have HTI:Hid (Holds [] 0 wr S3 (fun W=>OInts W S3 (.slice aty tl cty) (upTo (fun t=>((numN c t.toNat:Nat):Int)) x.term.to k))):=Lib.hid ⟨hti,fun _ _ h hk=>h.keep hk,hti.lt,fun _ _=>Nat.zero_le _,fun _ _ h=>by cases h⟩
       clear hof hti
       replace HW:=Lib.hid (HWj.out.trans (Off.below HOF3.out HWj.out.size (fun k _ hk=>by have:=HSN.out k (.inr (.inr hk));omega)))
       replace BX:=Lib.hid (HBXj.out.off HOF3.out (fun h=>by have:=(HS7.out _ (.inr (.inr h))).2;omega))
       have hwjr:wj.heap.size <= wr.heap.size:=Off.size HOF3.out



       by_cases hlt2:k < tl
       ·obtain ⟨t,htk⟩ : ∃ t,x.term.to[k]? = some t:=⟨_,List.getElem?_eq_getElem (by have:=HTL.out;omega)⟩
        obtain ⟨ht1,ht2⟩:=HCT.out t (List.mem_of_getElem? htk)
        obtain ⟨tn,rfl⟩ : ∃ tn:Nat,t=tn:=⟨t.toNat,by omega⟩
        obtain ⟨hup2,hnx2⟩:=upTo_at (g:=fun t:Int=>((numN c t.toNat:Nat):Int)) htk
        obtain ⟨gt,ctt,hvt,hSt,hgtl,hkc,hkf, -⟩:=HTI.out.now.addr hup2
        rw [upTo_len, <-HTL.out] at hvt
        cases hvt
        have htb:tn < nb:=by omega
        have hcN:=(Off.cell HOF3.out (b:=gN) (o:=oN+tn) (by omega) (fun h=>by have:=HSN.out _ (.inr (.inr h));omega)).trans (HNj.out tn htb)
        have HUP2:=Lib.hid hup2
        have HNX2:=Lib.hid hnx2
        have HST:=Lib.hid hSt
        have hgNr:gN < wr.heap.size:=by omega
        have hnn:numN c tn <= tn:=numN_le c tn
        clear hup2 hnx2 hSt htk


        obtain ⟨lBX,cBX,fBX⟩:=BX.out
        go_upto_region 23 with (fail)
        refine wp_region_grow 13 (fun _=>.plain) (by kernel_rfl) (by kernel_rfl) ?_ (fun ν => ?_)
        ·exact fun _=>trivial
        simp only [List.take_succ_cons,List.take_zero,List.drop_succ_cons,List.drop_zero]
        iterate 13 (refine Grow.val (v := ?_) rfl rfl (fun wg hbg hdg => ?_) ?_;rotate_left;(focus ((obtain ⟨lg0,cg0,fg0⟩:=BX.out.later hbg);(have zN:=(hbg.cell (p:=⟨gN,oN+tn,none⟩) hgNr).trans hcN;have zK:=(hbg.cell (p:=⟨gt,k,none⟩) hgtl).trans hkc);clear hbg hdg;first | (go_simp;done) | (go_simp;with_reducible rfl)));simp only [Act.put,List.setIfInBounds_toArray,List.set_cons_zero,List.set_cons_succ])
        intro wg hb hf hap
        clear hap
        clear lBX cBX fBX
        replace BX:=Lib.hid (BX.out.later hb)
        replace HTI:=Lib.hid (HTI.out.later hb)
        replace HOF3:=Lib.hid (HOF3.out.later hb)
        replace HW:=Lib.hid (HW.out.trans (hb.mono HW.out.size))
        clear hb
        obtain ⟨lBX,cBX,fBX⟩:=BX.out
        clear hf hcN hkc hkf
        obtain ⟨gt',ctt',hvt, -, -,hkc,hkf,hset⟩:=HTI.out.now.addr HUP2.out
        rw [upTo_len, <-HTL.out] at hvt
        cases hvt
        have HPUT:=Lib.hid (hset ((numN c tn:Nat):Int) ⟨by omega,by omega⟩)
        have HSET:Hid (Off (Foot.one gt) wg (wg.setCell ⟨gt,k,none⟩ (.int .i64 ((numN c tn:Nat):Int)))):=Lib.hid (Off.set wg ⟨gt,k,none⟩ _)
        clear hset
        go_wp2
        go_roundw
        case rel =>
         refine ⟨k+1,hlt2,by go_num,Off.trans HOF3.out (HSET.out.mono fun q _ hq=>by cases hq;exact HST.out), ?_⟩
         have h8:=HNX2.out
         simp only [Int.toNat_natCast] at h8
         have h9:=HPUT.out
         rw [h8] at h9
         exact h9
        case measure=>simp [intOf];omega
       ·have hkn:k=tl:=by omega
        have HTD:Hid (OInts wr S3 (.slice aty tl cty) (x.term.to.map (fun t=>((numN c t.toNat:Nat):Int)))):=Lib.hid (by
         have h9:=HTI.out.now
         rw [hkn,HTL.out,upTo_all, <-HTL.out] at h9;exact h9)
        have HPk:=Lib.hid (HP1.out.off HOF3.out (fun k h1 h2=>H123.out.2.1 k h1 h2))
        obtain ⟨lBX,cBX,fBX⟩:=BX.out
        go_wp2_with fail
        clear HTI hkn
        generalize wr=wk at *
        have HBXk:=BX
        have HWk:=HW
        have HOFk:=HOF3
        have HSP0:Hid (∀ k,S1 k -> wd.heap.size <= k/\k < bx):=Lib.hid (fun k hk=>HS7.out k (.inl hk))
        have HTDL:=Lib.hid HTD.out.lt
        go_loopw [13] (fun iv wr => ∃ (k:Nat) (Sp:Foot),k <= pl/\iv = .int .i64 k/\OffF S1 wk wr/\OPhis wr Sp (.slice apy pl cpy) (upTo (pruneP c) x.phis k) /\ ∀ q,Sp q -> S1 q \/ wk.heap.size <= q) (fun iv _=>pl - (intOf iv).toNat)
        case atStart=>exact ⟨0,S1,Nat.zero_le _,rfl,Off.refl _ _,by rw [upTo_zero];exact HPk.out.now,fun k h=>.inl h⟩
        case round =>
         obtain ⟨k,Sp,hk,rfl,hof,hop,hsp⟩:=hrel
         clear lBX cBX fBX
         have HOF1:=Lib.hid hof
         have HOP:=Lib.hid hop
         have HSP:=Lib.hid hsp
         clear hof hop hsp
         replace HW:=Lib.hid (HWk.out.trans (Off.below HOF1.out HWk.out.size (fun k _ hk=>by have:=(HSP0.out k hk).1;omega)))
         replace BX:=Lib.hid (HBXk.out.off HOF1.out (fun h=>by have:=(HSP0.out _ h).2;omega))
         generalize wr=wp at *
         have hwkp:wk.heap.size <= wp.heap.size:=Off.size HOF1.out
         have HNp:Hid (∀ t,t < nb -> wp.cell? ⟨gN,oN+t,none⟩=some (.int .i64 ((numN c t:Nat):Int))):=Lib.hid (fun t ht=>(Off.cell HOF1.out (b:=gN) (o:=oN+t) (by omega) (fun h=>by have:=(HSP0.out _ h).1;omega)).trans ((Off.cell HOFk.out (b:=gN) (o:=oN+t) (by omega) (fun h=>by have:=HSN.out _ (.inr (.inr h));omega)).trans (HNj.out t ht)))
         have HCp:Hid (∀ t,t < nb -> wp.cell? ⟨sb,so+t,none⟩=some (.bool (c t))):=Lib.hid (fun t ht=>(Off.cell HOF1.out (b:=sb) (o:=so+t) (by omega) (fun h=>by have:=(HSP0.out _ h).1;omega)).trans ((Off.cell HOFk.out (b:=sb) (o:=so+t) (by omega) (fun h=>by have:=HSN.out _ (.inr (.inr h));omega)).trans (HCj.out t ht)))

         by_cases hlt3:k < pl
         ·obtain ⟨p,hpk⟩ : ∃ p,x.phis[k]? = some p:=⟨_,List.getElem?_eq_getElem (by have:=HPL.out;omega)⟩
          obtain ⟨hup,hnx⟩:=upTo_at (g:=pruneP c) hpk
          have HPP:=Lib.hid (HPS.out p (List.mem_of_getElem? hpk))
          obtain ⟨gp,capp,af,av,cf,cv,cs2,G2,Sf,Sv,hv,hgpl,hGg,hGS,hC,hfr,hc2,hc3,hrow,hsf,hsv,iSf,iSv,hfv,hfG,hvG,hclo⟩:=HOP.out.open hup
          simp only [upTo_len, <-HPL.out] at hv hrow hclo
          cases hv
          obtain ⟨-, -,p2,p3, -, -, -, -⟩:=hC
          obtain ⟨sl,hsl⟩ : ∃ sl,sl=p.src.length:=⟨_,rfl⟩
          have hvl:p.vals.length=sl:=by rw [hsl];exact HPP.out.2.1.symm
          rw [<-hsl] at p2 hsf hc2
          rw [hvl] at p3 hsv hc3
          have HSL2:=Lib.hid hsl
          have hsl5:sl <= 512:=by have:=HPP.out.2.2;omega
          have HNX:=Lib.hid hnx
          have HROW:=Lib.hid hrow
          have HSF2:=Lib.hid hsf
          have HSV2:=Lib.hid hsv
          have HGG2:=Lib.hid hGg
          have HIS:=Lib.hid (And.intro hGS (And.intro iSf iSv))
          have HFV:=Lib.hid (And.intro hfv (And.intro hfG hvG))
          have HCLO:=Lib.hid hclo
          have HP23:=Lib.hid (And.intro p2 p3)
          have HFR:=Lib.hid hfr


          clear hup hnx hpk hsl hrow hsf hsv hGS iSf iSv hGg hfv hfG hvG hclo hc2 hc3 hfr p2 p3
          obtain ⟨lBX,cBX,fBX⟩:=BX.out
          go_upto_region 28 with (fail)
          clear lBX cBX fBX
          have HBW0:Hid (Below wp.heap.size wp ((wp.alloc (.cells #[] 3)).alloc (.cells #[] 3))):=Lib.hid (((Below.refl _ _).alloc (Nat.le_refl _) _).alloc (by simp) _)
          generalize (wp.alloc (.cells #[] 3)).alloc (.cells #[] 3)=wp0 at *
          obtain ⟨b1,hb1⟩ : ∃ b:Option Addr,b=some ⟨wp.heap.size,0,none⟩:=⟨_,rfl⟩
          obtain ⟨b2,hb2⟩ : ∃ b:Option Addr,b=some ⟨wp.heap.size+1,0,none⟩:=⟨_,rfl⟩
          rw [<-hb1, <-hb2]
          clear hb1 hb2
          have HWP:=HW
          have HBXp:=BX
          go_wp2_with fail
          go_loopw [14,15,16] (fun fv vv iv wr => ∃ (jj n:Nat) (T1 T2:Foot) (a1 a2:Option Addr) (c1 c2:Nat),jj <= sl/\iv = .int .i64 jj/\fv = .slice a1 n c1/\vv = .slice a2 n c2/\Below wp.heap.size wp wr/\OInts wr T1 (.slice a1 n c1) (srcTo c p jj)/\OInts wr T2 (.slice a2 n c2) (valTo c p jj)/\T1.off T2/\Fresh wp.heap.size T1/\Fresh wp.heap.size T2/\n <= jj/\(srcTo c p jj).length=n/\(valTo c p jj).length=n) (fun _ _ iv _=>sl - (intOf iv).toNat)
          case atStart=>exact ⟨0,0,Foot.none,Foot.none,b1,b2,0,0,Nat.zero_le _,rfl,rfl,rfl,HBW0.out,OInts.nil b1,OInts.nil b2,fun _ h=>h.elim,fun _ h=>h.elim,fun _ h=>h.elim,Nat.le_refl _,rfl,rfl⟩
          case round =>
           obtain ⟨jj,n,T1,T2,a1,a2,c1,c2,hjj,rfl,rfl,rfl,hbw2,ht1,ht2,h12,hf1,hf2,hnj,hl1,hl2⟩:=hrel
           have HBW:=Lib.hid hbw2
           have HT1:=Lib.hid ht1
           have HT2:=Lib.hid ht2
           have H12:=Lib.hid h12
           have HF12:=Lib.hid (And.intro hf1 hf2)
           replace HW:=Lib.hid (HWP.out.trans (Below.mono hbw2 HWP.out.size))
           replace BX:=Lib.hid (HBXp.out.later hbw2)
           have hwpr:wp.heap.size <= wr.heap.size:=hbw2.size
           have hp2r:=(HBW.out.cell (p:=⟨gp,k * 4+2,none⟩) hgpl).trans HP23.out.1
           clear hbw2 ht1 ht2 h12 hf1 hf2

           obtain ⟨lBX,cBX,fBX⟩:=BX.out
           by_cases hlt4:jj < sl
           ·obtain ⟨q,hq⟩ : ∃ q,p.src[jj]? = some q:=⟨_,List.getElem?_eq_getElem (by have:=HSL2.out;omega)⟩
            obtain ⟨pv,hpv⟩ : ∃ pv,p.vals[jj]? = some pv:=⟨_,List.getElem?_eq_getElem (by omega)⟩
            obtain ⟨hq0,hqn⟩:=HPP.out.1 q (List.mem_of_getElem? hq)
            obtain ⟨qn,rfl⟩ : ∃ qn:Nat,q=qn:=⟨q.toNat,by omega⟩
            have hstep:=to_step (c:=c) hq hpv
            rw [Int.toNat_natCast] at hstep
            have HSTEP:=Lib.hid hstep
            obtain ⟨gs,cgs,hvs,hSgs,hgsl,hcs, -, -⟩:=HSF2.out.addr hq
            rw [<-HSL2.out] at hvs
            cases hvs
            have hqb:qn < nb:=by omega
            have hcq:=(HBW.out.cell (p:=⟨gs,jj,none⟩) hgsl).trans hcs
            have hcc:=(HBW.out.cell (p:=⟨sb,so+qn,none⟩) (by show sb < wp.heap.size;omega)).trans (HCp.out qn hqb)
            have HPVV:=Lib.hid hpv
            clear hstep hcs hSgs hq hpv
            cases hci:c qn
            ·rw [hci] at hcc
             have hS:=HSTEP.out
             rw [hci] at hS
             simp only [Bool.false_eq_true,if_false] at hS
             have HS2:=Lib.hid hS
             clear hS hci
             go_wp2
             go_roundw
             case rel=>exact ⟨jj+1,n,T1,T2,a1,a2,c1,c2,hlt4,by go_num,rfl,rfl,HBW.out,by rw [HS2.out.1];exact HT1.out,by rw [HS2.out.2];exact HT2.out,H12.out,HF12.out.1,HF12.out.2,by omega,by rw [HS2.out.1];exact hl1,by rw [HS2.out.2];exact hl2⟩
             case measure=>simp [intOf];omega
            ·rw [hci] at hcc
             have hS:=HSTEP.out
             rw [hci] at hS
             simp only [if_true] at hS
             have HS2:=Lib.hid hS
             have hNr:=(HBW.out.cell (p:=⟨gN,oN+qn,none⟩) (by show gN < wp.heap.size;omega)).trans (HNp.out qn hqb)
             obtain ⟨gv,cgv,hvv,hSgv,hgvl,hcv, -, -⟩:=HSV2.out.addr HPVV.out
             rw [hvl] at hvv
             cases hvv
             have hp64:In64 pv:=HSV2.out.2 pv (List.mem_of_getElem? HPVV.out)
             have hni:In64 ((numN c qn:Nat):Int):=by have:=numN_le c qn;exact ⟨by omega,by omega⟩
             have HCV:=Lib.hid hcv
             clear hS hci hcv hSgv
             go_upto_region 34 with (at_builtin;go_loud (refine wpList_iapp rfl _ _ rfl rfl rfl hl1 (HT1.out.off (Off.alloc Foot.none wr _) (fun _ _ h=>h)) (Box.new _ _ _) hni (by omega) ?_);intro g6 c6 w10 q1 q2 q3)
             have HBW10:Hid (Below wp.heap.size wp w10):=Lib.hid ((HBW.out.alloc HBW.out.size _).trans (q3.below (by simp;omega) (fun k _ hk=>HF12.out.1 k hk)))
             have HO6:=Lib.hid q1
             have hq2:T1 g6 \/ wr.heap.size <= g6:=q2.imp_right (fun h=>by simp at h;omega)
             have HQ2:=Lib.hid hq2
             have HT2L:Hid (∀ k,T2 k -> k < wr.heap.size):=Lib.hid HT2.out.lt
             have HT2b:Hid (OInts w10 T2 (.slice a2 n c2) (valTo c p jj)):=Lib.hid ((HT2.out.off (Off.alloc Foot.none wr (.cells #[.int .i64 ((numN c qn:Nat):Int)] 3)) (fun _ _ h=>h)).off q3 (fun k h1 h2=>H12.out k h2 h1))
             clear lBX cBX fBX
             clear q1 q2 q3 hq2 hp2r hcq hcc hNr
             replace BX:=Lib.hid (HBXp.out.later HBW10.out)
             have hp3r:=(HBW10.out.cell (p:=⟨gp,k * 4+3,none⟩) hgpl).trans HP23.out.2
             have hcvr:=(HBW10.out.cell (p:=⟨gv,jj,none⟩) hgvl).trans HCV.out
             have hw10:wp.heap.size <= w10.heap.size:=HBW10.out.size

             obtain ⟨lBX,cBX,fBX⟩:=BX.out
             go_upto_region 30 with (at_builtin;go_loud (refine wpList_iapp rfl _ _ rfl rfl rfl hl2 (HT2b.out.off (Off.alloc Foot.none w10 _) (fun _ _ h=>h)) (Box.new _ _ _) hp64 (by omega) ?_);intro g16 c16 w11 q1 q2 q3)
             have HBW11:Hid (Below wp.heap.size wp w11):=Lib.hid ((HBW10.out.alloc HBW10.out.size _).trans (q3.below (by simp;omega) (fun k _ hk=>HF12.out.2 k hk)))
             have hq2:T2 g16 \/ w10.heap.size <= g16:=q2.imp_right (fun h=>by simp at h;omega)
             have h6T:¬ T2 g6:=fun h=>by
              rcases HQ2.out with h3 | h3
              ·exact H12.out _ h3 h
              ·have:=HT2L.out _ h;omega
             have HO16:=Lib.hid q1
             have HO6b:Hid (OInts w11 (Foot.one g6) (.slice (some ⟨g6,0,none⟩) (n+1) c6) (srcTo c p jj ++ [((numN c qn:Nat):Int)])):=Lib.hid ((HO6.out.off (Off.alloc Foot.none w10 (.cells #[.int .i64 pv] 3)) (fun _ _ h=>h)).off q3 (fun k h1 h2=>by cases h1;exact h6T h2))
             have HG6:Hid (wp.heap.size <= g6/\wp.heap.size <= g16/\g6 ≠ g16):=Lib.hid ⟨HQ2.out.elim (HF12.out.1 _) (fun h=>by omega),hq2.elim (HF12.out.2 _) (fun h=>by omega),fun e=>by
              rcases hq2 with h | h
              ·rw [<-e] at h;exact h6T h
              ·have:=HO6.out.lt g6 rfl;omega⟩
             clear lBX cBX fBX
             clear q1 q2 q3 hq2 h6T hp3r hcvr
             go_wp2
             go_roundw
             case rel =>
              refine ⟨jj+1,n+1,Foot.one g6,Foot.one g16,some ⟨g6,0,none⟩,some ⟨g16,0,none⟩,c6,c16,hlt4,by go_num,rfl,rfl,HBW11.out,by rw [HS2.out.1];exact HO6b.out,by rw [HS2.out.2];exact HO16.out,fun k h1 h2 => ?_,fun k hk=>by cases hk;exact HG6.out.1,fun k hk=>by cases hk;exact HG6.out.2.1,by omega,by rw [HS2.out.1,List.length_append,hl1];rfl,by rw [HS2.out.2,List.length_append,hl2];rfl⟩
              cases h1;exact HG6.out.2.2 h2
             case measure=>simp [intOf];omega
           ·have hjn:jj=sl:=by omega
            have hta:=to_all (c:=c) (p:=p) HPP.out.2.1
            rw [<-HSL2.out] at hta
            have HA1:Hid (OInts wr T1 (.slice a1 n c1) (pruneP c p).src):=Lib.hid (by have h9:=HT1.out;rw [hjn,hta.1] at h9;exact h9)
            have HA2:Hid (OInts wr T2 (.slice a2 n c2) (pruneP c p).vals):=Lib.hid (by have h9:=HT2.out;rw [hjn,hta.2] at h9;exact h9)
            have hp3r:=(HBW.out.cell (p:=⟨gp,k * 4+3,none⟩) hgpl).trans HP23.out.2
            have hfrr:∀ o,wr.frozen? ⟨gp,o,none⟩=false:=fun o=>(HBW.out.frozen (p:=⟨gp,o,none⟩) hgpl).trans (HFR.out o)
            have HROWR:=Lib.hid (HROW.out.off (Off.of_below HBW.out Foot.none) (fun _ _ h=>h))
            have HOFW:Hid (Off (Foot.one gp) wr ((wr.setCell ⟨gp,k * 4+2,none⟩ (.slice a1 n c1)).setCell ⟨gp,k * 4+3,none⟩ (.slice a2 n c2))):=Lib.hid ((Off.set wr ⟨gp,k * 4+2,none⟩ _).trans (Off.set _ ⟨gp,k * 4+3,none⟩ _))
            have hT:∀ q,(T1 q \/ T2 q) -> ¬ Foot.one gp q:=fun q hq h=>by
             cases h
             rcases hq with hq | hq
             ·have:=HF12.out.1 _ hq;omega
             ·have:=HF12.out.2 _ hq;omega
            have HNEW:Hid (OPhis ((wr.setCell ⟨gp,k * 4+2,none⟩ (.slice a1 n c1)).setCell ⟨gp,k * 4+3,none⟩ (.slice a2 n c2)) (fun q=>Sp q \/ T1 q \/ T2 q) (.slice (some ⟨gp,0,none⟩) pl cpy) (upTo (pruneP c) x.phis (k+1))):=Lib.hid (by
             have h9:=HCLO.out ((wr.setCell ⟨gp,k * 4+2,none⟩ (.slice a1 n c1)).setCell ⟨gp,k * 4+3,none⟩ (.slice a2 n c2)) (.slice a1 n c1) (.slice a2 n c2) (pruneP c p).src (pruneP c p).vals T1 T2
              ((Off.of_below HBW.out _).trans (HOFW.out.mono fun q _ hq=>by cases hq;exact .inl HGG2.out))
              ((HROWR.out.set rfl (by omega) (k * 4+2) _).set rfl (by omega) (k * 4+3) _)
              (HA1.out.off HOFW.out fun q h1 h2=>hT q (.inl h1) h2) (HA2.out.off HOFW.out fun q h1 h2=>hT q (.inr h1) h2) H12.out
              (fun q hq=>.inr (HF12.out.1 q hq)) (fun q hq=>.inr (HF12.out.2 q hq))
             rw [<-HNX.out]
             exact h9)
            have nGB:gp ≠ bx:=fun e=>by
             rcases HSP.out _ (HIS.out.1 _ HGG2.out) with h | h
             ·have:=(HSP0.out _ h).2;omega
             ·omega
            have nBG:bx ≠ gp:=fun e=>nGB e.symm
            clear hjn hta hT
            go_wp2
            go_roundw
            case rel =>
             refine ⟨k+1,_,hlt3,by go_num,Off.grow (Off.trans HOF1.out (Off.of_below HBW.out _)) HOFW.out (fun q hq=>by cases hq;exact HSP.out _ (HIS.out.1 _ HGG2.out)),HNEW.out,fun q hq => ?_⟩
             rcases hq with hq | hq | hq
             ·exact HSP.out q hq
             ·have:=HF12.out.1 q hq;right;omega
             ·have:=HF12.out.2 q hq;right;omega
            case measure=>simp [intOf];omega
         ·have hkn:k=pl:=by omega
          have HMAP:Hid (OPhis wp Sp (.slice apy pl cpy) (x.phis.map (pruneP c))):=Lib.hid (by
           have h9:=HOP.out
           rw [hkn,HPL.out,upTo_all, <-HPL.out] at h9;exact h9)
          have hS1:∀ q,S1 q -> wd.heap.size <= q/\q < bx:=HSP0.out
          have HC2p:Hid (OCode wp S2 (.slice aiy il ciy) x.code):=Lib.hid (((HC2.out.off HOFk.out (fun q h1 h2=>H123.out.2.2 q h1 h2)).off HOF1.out (fun q h1 h2=>H123.out.1 q h2 h1)).now)
          have HTDp:Hid (OInts wp S3 (.slice aty tl cty) (x.term.to.map (fun t=>((numN c t.toNat:Nat):Int)))):=Lib.hid (HTD.out.off HOF1.out (fun q h1 h2=>H123.out.2.1 q h2 h1))
          have hSp2:Sp.off S2:=fun q h1 h2=>by
           rcases HSP.out q h1 with h | h
           ·exact H123.out.1 q h h2
           ·have:=(HS7.out q (.inr (.inl h2))).2;omega
          have hSp3:Sp.off S3:=fun q h1 h2=>by
           rcases HSP.out q h1 with h | h
           ·exact H123.out.2.1 q h h2
           ·have:=(HS7.out q (.inr (.inr h2))).2;omega
          have HEL:Hid (OBlock wp (fun q=>(Sp q \/ S2 q) \/ S3 q) [.slice apy pl cpy,.slice aiy il ciy,.int .i64 x.term.op,.int .i64 x.term.val,.slice aty tl cty,.int .i64 x.term.n] (pruneB c x)):=Lib.hid ⟨⟨_,_,_,Sp,S2,S3,rfl,HMAP.out,HC2p.out,⟨⟨_,rfl,HTDp.out⟩,H64.out.1,H64.out.2.1,H64.out.2.2⟩,hSp2,hSp3,H123.out.2.2,fun q h=>.inl (.inl h),fun q h=>.inl (.inr h),fun q h=>.inr h⟩,fun q hq=>by
           rcases hq with (hq | hq) | hq
           ·exact HMAP.out.lt q hq
           ·exact HC2p.out.lt q hq
           ·exact HTDp.out.lt q hq⟩
          have hFb:∀ q,((Sp q \/ S2 q) \/ S3 q) -> wd.heap.size <= q:=fun q hq=>by
           rcases hq with (hq | hq) | hq
           ·rcases HSP.out q hq with h | h
            ·exact (hS1 q h).1
            ·omega
           ·exact (HS7.out q (.inr (.inl hq))).1
           ·exact (HS7.out q (.inr (.inr hq))).1
          have HFB:=Lib.hid hFb
          have HELH:Hid (Holds [] WN.heap.size wp (fun q=>(Sp q \/ S2 q) \/ S3 q) (fun W=>OBlock W (fun q=>(Sp q \/ S2 q) \/ S3 q) [.slice apy pl cpy,.slice aiy il ciy,.int .i64 x.term.op,.int .i64 x.term.val,.slice aty tl cty,.int .i64 x.term.n] (pruneB c x))):=Lib.hid (holds_nice OBlock.nice HEL.out (fun q hq=>by have:=hFb q hq;omega))
          have HKp:Hid (Holds [b9] WN.heap.size wp Sk (fun W=>OBlocks W Sk (.slice ak nd ck) ((keptB c f d).map (pruneB c)))):=Lib.hid ((HK.out.off HOFk.out (fun q h1 h2=>by have:=HKLd.out q h1;have:=(HS7.out q (.inr (.inr h2))).1;omega)).off HOF1.out (fun q h1 h2=>by have:=HKLd.out q h1;have:=(hS1 q h2).1;omega))
          have HQp:Hid (Holds [b9] WN.heap.size wp SQ (fun W=>OInts W SQ (.slice pa2 np pc2) f.params)):=Lib.hid ((HQ.out.off HOFk.out (fun q h1 h2=>by have:=HQLd.out q h1;have:=(HS7.out q (.inr (.inr h2))).1;omega)).off HOF1.out (fun q h1 h2=>by have:=HQLd.out q h1;have:=(hS1 q h2).1;omega))
          have B9:Hid (Box wp b9 #[.slice pa2 np pc2,.int .i64 ar,.int .i64 ce,.slice ak nd ck]):=Lib.hid ((B9j.out.off HOFk.out (fun h=>by have:=(HS7.out _ (.inr (.inr h))).1;omega)).off HOF1.out (fun h=>by have:=(hS1 _ h).1;omega))
          have HSp:Hid (Since WN wp):=Lib.hid (Below.trans (Below.trans HSj.out (Off.below HOFk.out hNj (fun q _ h=>HSN.out q (.inr (.inr h))))) (Off.below HOF1.out (by omega) (fun q _ h=>HSN.out q (.inl h))))
          have HFK:Hid (Foot.off (fun q=>(Sp q \/ S2 q) \/ S3 q) Sk):=Lib.hid (fun q h1 h2=>by have:=hFb q h1;have:=HKLd.out q h2;omega)
          have HLEN:Hid (((keptB c f d).map (pruneB c)).length=nd):=Lib.hid (by rw [List.length_map,kept_len (by have:=HNB.out;omega),HND.out])
          have HK0:=Lib.hid (HKp.out.less (bs':=[]) (by simp))
          have nB9X:b9 ≠ bx:=by omega
          have nBX9:bx ≠ b9:=by omega
          have hlp:WN.heap.size <= wp.heap.size:=Below.size HSp.out
          have hp1:∀ b ∈ ([] : List Nat),b < WN.heap.size:=by intro b hb;cases hb
          have hp5:∀ o:Obj,WN.heap.size <= (wp.alloc o).heap.size:=fun o=>by rw [World.size_alloc];omega
          have hp2:nd+1 <= 17592186044416:=by omega
          have hp3:(nd+1) * 96 <= 140737488355328:=by omega
          have hp4:∀ u ∈ ([.slice apy pl cpy,.slice aiy il ciy,.int .i64 x.term.op,.int .i64 x.term.val,.slice aty tl cty,.int .i64 x.term.n] : List Value),u.oneCell' = true:=by simp [Value.oneCell']
          clear HMAP HOP hkn hS1 hSp2 hSp3 hFb HEL HC2p HTDp

          obtain ⟨lBX,cBX,fBX⟩:=BX.out
          obtain ⟨lB9,cB9,fB9⟩:=B9.out
          go_upto_region 17 with (at_builtin;go_loud (refine wpList_osnoc OBlock.nice rfl _ _ 23 56 rfl elBlock rfl rfl HLEN.out (HK0.out.alloc _) (Box.new _ _ _) rfl (HELH.out.alloc _).now HFK.out HELH.out.base hp1 (hp5 _) hp4 hp2 hp3 ?_);intro v2 w9 SN q1 q2 q3 q4;obtain ⟨g2,c2,rfl⟩:=q4;have hB9:=(B9.out.alloc _).off q3 (fun h=>HKp.out.free _ h (by simp));obtain ⟨ly,cy,fy⟩:=hB9)
          have HBY:Hid (Box w9 b9 #[.slice pa2 np pc2,.int .i64 ar,.int .i64 ce,.slice ak nd ck]):=Lib.hid ⟨ly,cy,fy⟩
          clear ly cy fy
          have HS9:Hid (Since WN w9):=Lib.hid (Below.trans (HSp.out.alloc _) (q3.below (by simp;omega) (fun q _ hq=>HKp.out.base q hq)))
          have HOT:Hid (Off (Foot.one b9) w9 (w9.setCell ⟨b9,3,none⟩ (.slice (some ⟨g2,0,none⟩) (nd+1) c2))):=Lib.hid (Off.set w9 ⟨b9,3,none⟩ _)
          have hSNf:∀ q,SN q -> q ≠ b9:=fun q hq e=>by
           rcases q2 q hq with h | h | h
           ·exact HKp.out.free q h (by simp [e])
           ·have:=HFB.out q h;omega
           ·simp at h;omega
          have HKN:Hid (Holds [b9] WN.heap.size (w9.setCell ⟨b9,3,none⟩ (.slice (some ⟨g2,0,none⟩) (nd+1) c2)) SN (fun W=>OBlocks W SN (.slice (some ⟨g2,0,none⟩) (nd+1) c2) ((keptB c f d).map (pruneB c) ++ [pruneB c x]))):=Lib.hid ((Holds.mk q1.now q1.keep q1.lt q1.base (fun q hq hm=>hSNf q hq (by simpa using hm))).off HOT.out (fun q h1 h2=>hSNf q h1 h2))
          have HQN:Hid (Holds [b9] WN.heap.size (w9.setCell ⟨b9,3,none⟩ (.slice (some ⟨g2,0,none⟩) (nd+1) c2)) SQ (fun W=>OInts W SQ (.slice pa2 np pc2) f.params)):=Lib.hid (((HQp.out.alloc _).off q3 (fun q h1 h2=>HQK.out q h1 h2)).off HOT.out (fun q h1 h2=>HQp.out.free q h1 (by cases h2;simp)))
          have HBN:Hid (Box (w9.setCell ⟨b9,3,none⟩ (.slice (some ⟨g2,0,none⟩) (nd+1) c2)) b9 #[.slice pa2 np pc2,.int .i64 ar,.int .i64 ce,.slice (some ⟨g2,0,none⟩) (nd+1) c2]):=Lib.hid (by simpa using HBY.out.set 3 (.slice (some ⟨g2,0,none⟩) (nd+1) c2))
          have HSNew:Hid (Since WN (w9.setCell ⟨b9,3,none⟩ (.slice (some ⟨g2,0,none⟩) (nd+1) c2))):=Lib.hid (Below.trans HS9.out (HOT.out.below (Below.size HS9.out) (fun q _ h=>by cases h;omega)))
          have HQSN:Hid (SQ.off SN):=Lib.hid (fun q h1 h2=>by
           rcases q2 q h2 with h | h | h
           ·exact HQK.out q h1 h
           ·have:=HFB.out q h;have:=HQLd.out q h1;omega
           ·have:=HQp.out.lt q h1;simp at h;omega)
          clear lBX cBX fBX lB9 cB9 fB9
          clear q1 q2 q3 hSNf
          have HN1:Hid (nd+1=numN c (d+1)):=Lib.hid (by rw [HNN.out,HND.out])
          go_wp2
          go_roundw
          case rel =>
           refine ⟨d+1,SN,some ⟨g2,0,none⟩,c2,hlt,by go_num,HSNew.out,by rw [<-HN1.out];exact HBN.out,HQN.out, ?_,HQSN.out⟩
           rw [<-HN1.out,HKK.out,List.map_append]
           exact HKN.out
          case measure=>simp [intOf];omega
    ·have hdn:d=nb:=by omega
     have HKF:Hid (Holds [b9] WN.heap.size wd Sk (fun W=>OBlocks W Sk (.slice ak (numN c d) ck) (prunedF f).blocks)):=Lib.hid (by
      have h9:=HK.out
      have e:(keptB c f d).map (pruneB c)=(prunedF f).blocks:=by
       rw [hdn,HCD.out,HNB.out];rfl
      rw [e] at h9
      exact h9)
     obtain ⟨g,hg⟩ : ∃ g,g=prunedF f:=⟨_,rfl⟩
     have HG:=Lib.hid hg
     have HGL:Hid (numN c d=g.blocks.length):=Lib.hid (by rw [hg,hdn,HCD.out,HNB.out];exact (pruned_len f _).symm)
     have HGP:Hid (f.params=g.params/\ar=g.arrays/\ce=g.cells):=Lib.hid (by rw [hg,HAC.out.1,HAC.out.2];exact ⟨rfl,rfl,rfl⟩)
     obtain ⟨ng,hng⟩ : ∃ ng,ng=numN c d:=⟨_,rfl⟩
     rw [<-hng] at B9 HKF HGL
     rw [<-hg] at HKF
     have HOF:Hid (Holds [b9] WN.heap.size wd (fun q=>SQ q \/ Sk q) (fun W=>OFunc W (fun q=>SQ q \/ Sk q) (.agg #[.slice pa2 np pc2,.int .i64 ar,.int .i64 ce,.slice ak ng ck]) g)):=Lib.hid ⟨⟨⟨_,_,SQ,Sk,by rw [HGP.out.2.1,HGP.out.2.2],by rw [<-HGP.out.1];exact HQ.out.now,HKF.out.now,HQK.out,fun q h=>.inl h,fun q h=>.inr h⟩,fun q hq=>hq.elim (HQ.out.lt q) (HKF.out.lt q),by rw [<-HGP.out.2.1,HAC.out.1];exact HA64.out.1,by rw [<-HGP.out.2.2,HAC.out.2];exact HA64.out.2⟩,fun _ _ h hk=>h.keep hk,fun q hq=>hq.elim (HQ.out.lt q) (HKF.out.lt q),fun q hq=>hq.elim (HQ.out.base q) (HKF.out.base q),fun q hq=>hq.elim (HQ.out.free q) (HKF.out.free q)⟩
     have B2:=Lib.hid (B2N.out.later HS.out)
     have hWNw:w.heap.size+2 <= WN.heap.size:=by omega
     have HOFL:=Lib.hid (HOF.out.low (bs':=[w.heap.size+1]) (by simp;omega))
     clear HK HKF HQ HQK hdn hg hng HGL HGP HOF




     obtain ⟨lB2,cB2,fB2⟩:=B2.out
     obtain ⟨lB9,cB9,fB9⟩:=B9.out
     go_wp2_with fail
     refine (refCheck HOFL.out.now.reads).mono ?_
     rintro e w5 ⟨rfl,hb⟩
     clear lB2 cB2 fB2 lB9 cB9 fB9
     replace B2:=Lib.hid (B2.out.later hb)
     replace B9:=Lib.hid (B9.out.later hb)
     replace HOFL:=Lib.hid (HOFL.out.later hb)
     replace HW:=Lib.hid (HW.out.trans (hb.mono HW.out.size))
     clear hb
     obtain ⟨lB2,cB2,fB2⟩:=B2.out
     obtain ⟨lB9,cB9,fB9⟩:=B9.out
     obtain ⟨cg,hcg⟩ : ∃ cg,cg=checkF g:=⟨_,rfl⟩
     rw [<-hcg]
     have HCG:=Lib.hid hcg
     clear hcg
     have nB2B9:w.heap.size+1 ≠ b9:=by omega
     have nB9B2:b9 ≠ w.heap.size+1:=by omega
     cases h9:(cg != 0)
     rotate_left
     ·have HWHY:Hid (pruneF f=(zeroF,cg)):=Lib.hid (by rw [HCG.out,HG.out];exact pruneF_late HC0.out (by rw [<-HG.out, <-HCG.out];simpa using h9))
      go_upto_region 40 with (fail)
      repeat (first | go_skip | go_guarded | go_step | go_upon)
      have B2_:Box ((((w5.setCell ⟨w.heap.size+1,0,none⟩ (.slice none 0 0)).setCell ⟨w.heap.size+1,1,none⟩ (.int .i64 0)).setCell ⟨w.heap.size+1,2,none⟩ (.int .i64 0)).setCell ⟨w.heap.size+1,3,none⟩ (.slice none 0 0)) (w.heap.size+1) #[(.slice none 0 0),(.int .i64 0),(.int .i64 0),(.slice none 0 0)]:=by simpa using ((((B2.out.set 0 (.slice none 0 0)).set 1 (.int .i64 0)).set 2 (.int .i64 0)).set 3 (.slice none 0 0))
      have B9_:Box ((((w5.setCell ⟨w.heap.size+1,0,none⟩ (.slice none 0 0)).setCell ⟨w.heap.size+1,1,none⟩ (.int .i64 0)).setCell ⟨w.heap.size+1,2,none⟩ (.int .i64 0)).setCell ⟨w.heap.size+1,3,none⟩ (.slice none 0 0)) (b9) #[.slice pa2 np pc2,.int .i64 ar,.int .i64 ce,.slice ak ng ck]:=by simpa using ((((B9.out.other (p:=⟨w.heap.size+1,0,none⟩) (.slice none 0 0) (by first | assumption | (simp;done) | omega | (dsimp only;omega))).other (p:=⟨w.heap.size+1,1,none⟩) (.int .i64 0) (by first | assumption | (simp;done) | omega | (dsimp only;omega))).other (p:=⟨w.heap.size+1,2,none⟩) (.int .i64 0) (by first | assumption | (simp;done) | omega | (dsimp only;omega))).other (p:=⟨w.heap.size+1,3,none⟩) (.slice none 0 0) (by first | assumption | (simp;done) | omega | (dsimp only;omega)))
      have HOFL_:=((((HOFL.out.other (p:=⟨w.heap.size+1,0,none⟩) (.slice none 0 0) (by simp)).other (p:=⟨w.heap.size+1,1,none⟩) (.int .i64 0) (by simp)).other (p:=⟨w.heap.size+1,2,none⟩) (.int .i64 0) (by simp)).other (p:=⟨w.heap.size+1,3,none⟩) (.slice none 0 0) (by simp))
      have HW_:Below w.heap.size w ((((w5.setCell ⟨w.heap.size+1,0,none⟩ (.slice none 0 0)).setCell ⟨w.heap.size+1,1,none⟩ (.int .i64 0)).setCell ⟨w.heap.size+1,2,none⟩ (.int .i64 0)).setCell ⟨w.heap.size+1,3,none⟩ (.slice none 0 0)):=((((HW.out.setCell (p:=⟨w.heap.size+1,0,none⟩) (by first | assumption | omega | (dsimp only;omega) | (have:=HW.out.size;omega) | (simp;done) | (simp;omega)) (.slice none 0 0)).setCell (p:=⟨w.heap.size+1,1,none⟩) (by first | assumption | omega | (dsimp only;omega) | (have:=HW.out.size;omega) | (simp;done) | (simp;omega)) (.int .i64 0)).setCell (p:=⟨w.heap.size+1,2,none⟩) (by first | assumption | omega | (dsimp only;omega) | (have:=HW.out.size;omega) | (simp;done) | (simp;omega)) (.int .i64 0)).setCell (p:=⟨w.heap.size+1,3,none⟩) (by first | assumption | omega | (dsimp only;omega) | (have:=HW.out.size;omega) | (simp;done) | (simp;omega)) (.slice none 0 0))
      clear lB2 cB2 fB2 lB9 cB9 fB9
      clear B2 B9 HOFL HW
      generalize ((((w5.setCell ⟨w.heap.size+1,0,none⟩ (.slice none 0 0)).setCell ⟨w.heap.size+1,1,none⟩ (.int .i64 0)).setCell ⟨w.heap.size+1,2,none⟩ (.int .i64 0)).setCell ⟨w.heap.size+1,3,none⟩ (.slice none 0 0))=wz at *
      have B2:=Lib.hid B2_
      clear B2_
      have B9:=Lib.hid B9_
      clear B9_
      have HOFL:=Lib.hid HOFL_
      clear HOFL_
      have HW:=Lib.hid HW_
      clear HW_
      obtain ⟨lB2,cB2,fB2⟩:=B2.out
      obtain ⟨lB9,cB9,fB9⟩:=B9.out
      refine bodyPost_ret (v:=.tuple #[.agg #[.slice none 0 0,.int .i64 0,.int .i64 0,.slice none 0 0],.int .i64 cg]) (by simp [results,Try.results14,go_sem,cB2]) rfl ⟨_,Foot.none,by rw [HWHY.out],by rw [HWHY.out];exact OFunc.zero,fun _ h=>h.elim,HW.out⟩
     have HOK:Hid (pruneF f=(g,0)):=Lib.hid (by rw [HG.out];exact pruneF_ok HC0.out (by rw [<-HG.out, <-HCG.out];simpa using h9))
     go_upto_region 41 with (fail)
     repeat (first | go_skip | go_guarded | go_step | go_upon)
     have B2_:Box ((((w5.setCell ⟨w.heap.size+1,0,none⟩ (.slice pa2 np pc2)).setCell ⟨w.heap.size+1,1,none⟩ (.int .i64 ar)).setCell ⟨w.heap.size+1,2,none⟩ (.int .i64 ce)).setCell ⟨w.heap.size+1,3,none⟩ (.slice ak ng ck)) (w.heap.size+1) #[(.slice pa2 np pc2),(.int .i64 ar),(.int .i64 ce),(.slice ak ng ck)]:=by simpa using ((((B2.out.set 0 (.slice pa2 np pc2)).set 1 (.int .i64 ar)).set 2 (.int .i64 ce)).set 3 (.slice ak ng ck))
     have B9_:Box ((((w5.setCell ⟨w.heap.size+1,0,none⟩ (.slice pa2 np pc2)).setCell ⟨w.heap.size+1,1,none⟩ (.int .i64 ar)).setCell ⟨w.heap.size+1,2,none⟩ (.int .i64 ce)).setCell ⟨w.heap.size+1,3,none⟩ (.slice ak ng ck)) (b9) #[.slice pa2 np pc2,.int .i64 ar,.int .i64 ce,.slice ak ng ck]:=by simpa using ((((B9.out.other (p:=⟨w.heap.size+1,0,none⟩) (.slice pa2 np pc2) (by first | assumption | (simp;done) | omega | (dsimp only;omega))).other (p:=⟨w.heap.size+1,1,none⟩) (.int .i64 ar) (by first | assumption | (simp;done) | omega | (dsimp only;omega))).other (p:=⟨w.heap.size+1,2,none⟩) (.int .i64 ce) (by first | assumption | (simp;done) | omega | (dsimp only;omega))).other (p:=⟨w.heap.size+1,3,none⟩) (.slice ak ng ck) (by first | assumption | (simp;done) | omega | (dsimp only;omega)))
     have HOFL_:=((((HOFL.out.other (p:=⟨w.heap.size+1,0,none⟩) (.slice pa2 np pc2) (by simp)).other (p:=⟨w.heap.size+1,1,none⟩) (.int .i64 ar) (by simp)).other (p:=⟨w.heap.size+1,2,none⟩) (.int .i64 ce) (by simp)).other (p:=⟨w.heap.size+1,3,none⟩) (.slice ak ng ck) (by simp))
     have HW_:Below w.heap.size w ((((w5.setCell ⟨w.heap.size+1,0,none⟩ (.slice pa2 np pc2)).setCell ⟨w.heap.size+1,1,none⟩ (.int .i64 ar)).setCell ⟨w.heap.size+1,2,none⟩ (.int .i64 ce)).setCell ⟨w.heap.size+1,3,none⟩ (.slice ak ng ck)):=((((HW.out.setCell (p:=⟨w.heap.size+1,0,none⟩) (by first | assumption | omega | (dsimp only;omega) | (have:=HW.out.size;omega) | (simp;done) | (simp;omega)) (.slice pa2 np pc2)).setCell (p:=⟨w.heap.size+1,1,none⟩) (by first | assumption | omega | (dsimp only;omega) | (have:=HW.out.size;omega) | (simp;done) | (simp;omega)) (.int .i64 ar)).setCell (p:=⟨w.heap.size+1,2,none⟩) (by first | assumption | omega | (dsimp only;omega) | (have:=HW.out.size;omega) | (simp;done) | (simp;omega)) (.int .i64 ce)).setCell (p:=⟨w.heap.size+1,3,none⟩) (by first | assumption | omega | (dsimp only;omega) | (have:=HW.out.size;omega) | (simp;done) | (simp;omega)) (.slice ak ng ck))
     clear lB2 cB2 fB2 lB9 cB9 fB9
     clear B2 B9 HOFL HW
     generalize ((((w5.setCell ⟨w.heap.size+1,0,none⟩ (.slice pa2 np pc2)).setCell ⟨w.heap.size+1,1,none⟩ (.int .i64 ar)).setCell ⟨w.heap.size+1,2,none⟩ (.int .i64 ce)).setCell ⟨w.heap.size+1,3,none⟩ (.slice ak ng ck))=w6 at *
     have B2:=Lib.hid B2_
     clear B2_
     have B9:=Lib.hid B9_
     clear B9_
     have HOFL:=Lib.hid HOFL_
     clear HOFL_
     have HW:=Lib.hid HW_
     clear HW_
     obtain ⟨lB2,cB2,fB2⟩:=B2.out
     obtain ⟨lB9,cB9,fB9⟩:=B9.out
     refine bodyPost_ret (v:=.tuple #[.agg #[.slice pa2 np pc2,.int .i64 ar,.int .i64 ce,.slice ak ng ck],.int .i64 0]) (by simp [results,Try.results14,go_sem,cB2]) rfl ⟨_,_,by rw [HOK.out],by rw [HOK.out];exact HOFL.out.now,fun k hk => ?_,HW.out⟩
     have:=HOFL.out.base k hk;omega
end Go.Proofs.Ytblgdccoeecodaa
