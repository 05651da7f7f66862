/- Part 48. -/
import Derived.Test.YtgmhnepmkaonaaaGreatQA45
import Derived.Test.YtgmhnepmkaonaaaGreatQA43
import Derived.Test.YtgmhnepmkaonaaaGreatQA47
namespace Go.Proofs.YtgmhnepmkaonaaaGreat
private theorem h! {p : Prop} (h : p) : Go.RowKit.Hid p := Go.Lib.hid h
set_option linter.unusedSimpArgs false
set_option linter.unusedVariables false
open Go.RowKit
set_option maxHeartbeats 25600000 in
set_option maxRecDepth 100000 in
theorem refBlocks {f:FuncD} {w:World} {v lat pv:Value} {h:Nat} (hv:FuncV w v f) (hf:formB f=true) (hh:h < f.blocks.length) (hL:Ints w lat (natI (latN f h))) (hP:Lists w pv (predsF f)) :
  Calls Tryz.prog 72 #[v,.agg #[.int .i64 h,.slice none 0 0,lat,.slice none 0 0,.int .i64 0],pv] w (LoopR f h lat w):=by
 obtain ⟨hn1,hn2⟩:=formB_nb hf
 have HF:=h! hf
 have HV:=h! hv
 have HLT:=h! hL
 have HHH:=h! hh
 obtain ⟨la,lc,rfl⟩:=hL.form
 obtain ⟨nl,hnl⟩ : ∃ nl,nl=(natI (latN f h)).length:=⟨_,rfl⟩
 rw [<-hnl] at HLT ⊢
 have HNL:=h! hnl
 have hnl5:nl <= 512:=by rw [hnl,natI_len];have:=latN_len f h;omega
 obtain ⟨ap,cp,ab,cb,rfl, -, -, -, -⟩:=hv.form
 obtain ⟨vs,pa,pc,pb,po,rfl, -, -, -,hpa,hpx,hpi⟩:=hP.parts
 have hpl:(predsF f).length=f.blocks.length:=predI_len _ _ _
 rw [hpl] at hpa hpx hpi
 rw [hpl]
 obtain ⟨rfl,hpbl⟩:=hpa (by omega)
 obtain ⟨nb,hnb⟩ : ∃ nb,nb=f.blocks.length:=⟨_,rfl⟩
 have HNB:=h! hnb
 rw [<-hnb] at hn1 hn2 hh hpx hpi HV
 rw [<-hnb]
 have HPX:Hid (∀ j,j < nb -> w.cell? ⟨pb,po+j,none⟩=some (vs.getD j undef)/\Ints w (vs.getD j undef) (natI (predN f f.blocks.length 0 j))):=h! (fun j hj=>by
  refine ⟨hpx j hj, ?_⟩
  have h9:=hpi j hj
  have h8:(predsF f).getD j []=natI (predN f f.blocks.length 0 j):=by
   unfold predsF
   rw [List.getD_eq_getElem?_getD,predI_at (by rw [<-hnb];exact hj)];rfl
  rwa [h8] at h9)
 have hmk:=run_make_row' (P:=Tryz.prog) 126 4 (.bool false) 1 Tryz.underlying126 infoBool rfl .i64 .i64 nb (by omega) (by omega)
 clear hv hf hL hP hnl hpl hpa hpx hpi hnb
 go_enter Tryz.func72,Tryz.ntmps72
 go_upto_region 1 with (fail)
 have B3:Hid (Box (((w.alloc (.cells #[.slice ap f.params.length cp,.int .i64 f.arrays,.int .i64 f.cells,.slice ab nb cb] 25)).alloc (.cells #[.int .i64 h,.slice none 0 0,.slice la nl lc,.slice none 0 0,.int .i64 0] 63)).alloc (.cells #[.int .i64 0,.slice none 0 0,.slice none 0 0,.slice none 0 0,.int .i64 0] 63)) (w.heap.size) #[.slice ap f.params.length cp,.int .i64 f.arrays,.int .i64 f.cells,.slice ab nb cb]):=h! (by simpa using (((Box.new w #[.slice ap f.params.length cp,.int .i64 f.arrays,.int .i64 f.cells,.slice ab nb cb] 25).alloc _).alloc _))
 have B4:Hid (Box (((w.alloc (.cells #[.slice ap f.params.length cp,.int .i64 f.arrays,.int .i64 f.cells,.slice ab nb cb] 25)).alloc (.cells #[.int .i64 h,.slice none 0 0,.slice la nl lc,.slice none 0 0,.int .i64 0] 63)).alloc (.cells #[.int .i64 0,.slice none 0 0,.slice none 0 0,.slice none 0 0,.int .i64 0] 63)) (w.heap.size+1) #[.int .i64 h,.slice none 0 0,.slice la nl lc,.slice none 0 0,.int .i64 0]):=h! (by simpa using ((Box.new (w.alloc (.cells #[.slice ap f.params.length cp,.int .i64 f.arrays,.int .i64 f.cells,.slice ab nb cb] 25)) #[.int .i64 h,.slice none 0 0,.slice la nl lc,.slice none 0 0,.int .i64 0] 63).alloc _))
 have B6:Hid (Box (((w.alloc (.cells #[.slice ap f.params.length cp,.int .i64 f.arrays,.int .i64 f.cells,.slice ab nb cb] 25)).alloc (.cells #[.int .i64 h,.slice none 0 0,.slice la nl lc,.slice none 0 0,.int .i64 0] 63)).alloc (.cells #[.int .i64 0,.slice none 0 0,.slice none 0 0,.slice none 0 0,.int .i64 0] 63)) (w.heap.size+1+1) #[.int .i64 0,.slice none 0 0,.slice none 0 0,.slice none 0 0,.int .i64 0]):=h! (by simpa using (Box.new ((w.alloc (.cells #[.slice ap f.params.length cp,.int .i64 f.arrays,.int .i64 f.cells,.slice ab nb cb] 25)).alloc (.cells #[.int .i64 h,.slice none 0 0,.slice la nl lc,.slice none 0 0,.int .i64 0] 63)) #[.int .i64 0,.slice none 0 0,.slice none 0 0,.slice none 0 0,.int .i64 0] 63))
 have HW:Hid (Below w.heap.size w (((w.alloc (.cells #[.slice ap f.params.length cp,.int .i64 f.arrays,.int .i64 f.cells,.slice ab nb cb] 25)).alloc (.cells #[.int .i64 h,.slice none 0 0,.slice la nl lc,.slice none 0 0,.int .i64 0] 63)).alloc (.cells #[.int .i64 0,.slice none 0 0,.slice none 0 0,.slice none 0 0,.int .i64 0] 63))):=h! ((((Below.refl _ _).alloc (Nat.le_refl _) _).alloc (by simp) _).alloc (by simp;omega) _)
 generalize (((w.alloc (.cells #[.slice ap f.params.length cp,.int .i64 f.arrays,.int .i64 f.cells,.slice ab nb cb] 25)).alloc (.cells #[.int .i64 h,.slice none 0 0,.slice la nl lc,.slice none 0 0,.int .i64 0] 63)).alloc (.cells #[.int .i64 0,.slice none 0 0,.slice none 0 0,.slice none 0 0,.int .i64 0] 63))=wv at *
 obtain ⟨lB3,cB3,fB3⟩:=B3.out
 obtain ⟨lB4,cB4,fB4⟩:=B4.out
 obtain ⟨lB6,cB6,fB6⟩:=B6.out
 have gwv:w.heap.size+1+1 < wv.heap.size:=lB6
 go_upto_region 2 with (fail)
 have nBFB3:wv.heap.size ≠ w.heap.size:=fun e=>by have:=lB3;omega
 have nB3BF:w.heap.size ≠ wv.heap.size:=fun e=>nBFB3 e.symm
 have nBFB4:wv.heap.size ≠ w.heap.size+1:=fun e=>by have:=lB4;omega
 have nB4BF:w.heap.size+1 ≠ wv.heap.size:=fun e=>nBFB4 e.symm
 have nBFB6:wv.heap.size ≠ w.heap.size+1+1:=fun e=>by have:=lB6;omega
 have nB6BF:w.heap.size+1+1 ≠ wv.heap.size:=fun e=>nBFB6 e.symm
 have B3_:Box (wv.alloc (.cells (madeCells #[.bool false] nb) 4)) (w.heap.size) #[.slice ap f.params.length cp,.int .i64 f.arrays,.int .i64 f.cells,.slice ab nb cb]:=by simpa using (B3.out.alloc _)
 have B4_:Box (wv.alloc (.cells (madeCells #[.bool false] nb) 4)) (w.heap.size+1) #[.int .i64 h,.slice none 0 0,.slice la nl lc,.slice none 0 0,.int .i64 0]:=by simpa using (B4.out.alloc _)
 have B6_:Box (wv.alloc (.cells (madeCells #[.bool false] nb) 4)) (w.heap.size+1+1) #[.int .i64 0,.slice none 0 0,.slice none 0 0,.slice none 0 0,.int .i64 0]:=by simpa using (B6.out.alloc _)
 have BF_:Box (wv.alloc (.cells (madeCells #[.bool false] nb) 4)) (wv.heap.size) (madeCells #[.bool false] nb):=by first | exact (Box.new wv (madeCells #[.bool false] nb) 4) | simpa using (Box.new wv (madeCells #[.bool false] nb) 4)
 have HW_:Below w.heap.size w (wv.alloc (.cells (madeCells #[.bool false] nb) 4)):=(HW.out.alloc (by first | exact Nat.le_refl _ | exact HW.out.size | (simp only [World.size_alloc,World.size_setCell];have:=HW.out.size;omega)) _)
 clear lB3 cB3 fB3 lB4 cB4 fB4 lB6 cB6 fB6
 clear B3 B4 B6 HW
 generalize (wv.alloc (.cells (madeCells #[.bool false] nb) 4))=w3 at *
 have B3:=h! B3_
 clear B3_
 have B4:=h! B4_
 clear B4_
 have B6:=h! B6_
 clear B6_
 have BF:=h! BF_
 clear BF_
 have HW:=h! HW_
 clear HW_
 obtain ⟨lB3,cB3,fB3⟩:=B3.out
 obtain ⟨lB4,cB4,fB4⟩:=B4.out
 obtain ⟨lB6,cB6,fB6⟩:=B6.out
 obtain ⟨lBF,cBF,fBF⟩:=BF.out
 rw [flags_made] at BF cBF
 clear hmk
 obtain ⟨fb,hfb⟩ : ∃ fb,fb=wv.heap.size:=⟨_,rfl⟩
 rw [<-hfb] at BF gwv ⊢
 clear lB3 cB3 fB3 lB4 cB4 fB4 lB6 cB6 fB6 lBF cBF fBF
 have gfb:fb < w3.heap.size:=BF.out.lt
 clear hfb
 go_wp2_with fail
 have HW3:=HW
 have B33:=B3
 have B43:=B4
 have B63:=B6
 have BF3:Hid (Box w3 fb (flagsA (latS f (latN f h) 0))):=h! (by rw [latS_zero, <-HNB.out];exact BF.out)
 clear HW B3 B4 B6 BF
 go_loopw [8] (fun iv wr => ∃ j:Nat,j <= nl/\iv = .int .i64 j/\Box wr fb (flagsA (latS f (latN f h) j))/\Off (fun k=>k=fb) w3 wr) (fun iv _=>nl - (intOf iv).toNat)
 case atStart=>exact ⟨0,Nat.zero_le _,rfl,BF3.out,Off.refl _ _⟩
 case round =>
  obtain ⟨j,hj,rfl,hbx,ho⟩:=hrel
  have BF:=h! hbx
  have HOF:=h! ho
  clear hbx ho
  have HW:Hid (Below w.heap.size w wr):=h! (HW3.out.trans (HOF.out.below HW3.out.size (fun k _ hk=>by have h9:k=fb:=hk;omega)))
  have B3:=h! (B33.out.off HOF.out (fun hk=>by have h9:w.heap.size=fb:=hk;omega))
  have B4:=h! (B43.out.off HOF.out (fun hk=>by have h9:w.heap.size+1=fb:=hk;omega))
  have B6:=h! (B63.out.off HOF.out (fun hk=>by have h9:w.heap.size+1+1=fb:=hk;omega))
  by_cases hlt:j < nl
  ·obtain ⟨gb,go_,gc,he,hgl, -, -,hgx⟩:=ints_cells HLT.out (by rw [<-HNL.out];omega)
   rw [<-HNL.out] at he hgx
   injection he with e1 e2 e3
   subst e1
   subst e3
   obtain ⟨p,hp⟩ : ∃ p,(latN f h)[j]? = some p:=⟨_,List.getElem?_eq_getElem (by have h9:=HNL.out;rw [natI_len] at h9;omega)⟩
   have hpn:p < nb:=by rw [HNB.out];exact toB_lt (mem_latN.1 (List.mem_of_getElem? hp)).1
   have z1:=(HW.out.cell (p:=⟨gb,go_+j,none⟩) hgl).trans (hgx j hlt)
   have hgv:(natI (latN f h)).getD j 0=(p:Int):=by unfold natI;rw [List.getD_eq_getElem?_getD,List.getElem?_map,hp];rfl
   rw [hgv] at z1
   have HP:=h! hp
   obtain ⟨d,hd⟩ : ∃ d,(latS f (latN f h) j)[p]? = some d:=⟨_,List.getElem?_eq_getElem (by rw [latS_len, <-HNB.out];exact hpn)⟩
   have hfl:=flagsA_at hd
   clear hgx hgv hp hd e2
   obtain ⟨lB3,cB3,fB3⟩:=B3.out
   obtain ⟨lB4,cB4,fB4⟩:=B4.out
   obtain ⟨lB6,cB6,fB6⟩:=B6.out
   obtain ⟨lBF,cBF,fBF⟩:=BF.out
   go_upto_region 4 with (fail)
   have hst:Hid (Off (fun q=>q=fb) wr (wr.setCell ⟨fb,p,none⟩ (.bool true))):=h! (Off.set wr ⟨fb,p,none⟩ _)
   have B3_:Box (wr.setCell ⟨fb,p,none⟩ (.bool true)) (w.heap.size) #[.slice ap f.params.length cp,.int .i64 f.arrays,.int .i64 f.cells,.slice ab nb cb]:=by simpa using (B3.out.other (p:=⟨fb,p,none⟩) (.bool true) (by first | assumption | (simp;done) | omega | (dsimp only;omega)))
   have B4_:Box (wr.setCell ⟨fb,p,none⟩ (.bool true)) (w.heap.size+1) #[.int .i64 h,.slice none 0 0,.slice (some ⟨gb,go_,none⟩) nl lc,.slice none 0 0,.int .i64 0]:=by simpa using (B4.out.other (p:=⟨fb,p,none⟩) (.bool true) (by first | assumption | (simp;done) | omega | (dsimp only;omega)))
   have B6_:Box (wr.setCell ⟨fb,p,none⟩ (.bool true)) (w.heap.size+1+1) #[.int .i64 0,.slice none 0 0,.slice none 0 0,.slice none 0 0,.int .i64 0]:=by simpa using (B6.out.other (p:=⟨fb,p,none⟩) (.bool true) (by first | assumption | (simp;done) | omega | (dsimp only;omega)))
   have BF_:Box (wr.setCell ⟨fb,p,none⟩ (.bool true)) (fb) (((flagsA (latS f (latN f h) j))).setIfInBounds p (.bool true)):=by first | exact (BF.out.set p (.bool true)) | simpa using (BF.out.set p (.bool true))
   have HW_:Below w.heap.size w (wr.setCell ⟨fb,p,none⟩ (.bool true)):=(HW.out.setCell (p:=⟨fb,p,none⟩) (by first | assumption | omega | (dsimp only;omega) | (have:=HW.out.size;omega) | (simp;done) | (simp;omega)) (.bool true))
   clear lB3 cB3 fB3 lB4 cB4 fB4 lB6 cB6 fB6 lBF cBF fBF
   clear B3 B4 B6 BF HW
   generalize (wr.setCell ⟨fb,p,none⟩ (.bool true))=w5 at *
   have B3:=h! B3_
   clear B3_
   have B4:=h! B4_
   clear B4_
   have B6:=h! B6_
   clear B6_
   have BF:=h! BF_
   clear BF_
   have HW:=h! HW_
   clear HW_
   obtain ⟨lB3,cB3,fB3⟩:=B3.out
   obtain ⟨lB4,cB4,fB4⟩:=B4.out
   obtain ⟨lB6,cB6,fB6⟩:=B6.out
   obtain ⟨lBF,cBF,fBF⟩:=BF.out
   rw [flagsA_set, <-latS_next HP.out] at BF
   clear z1 hfl
   clear lB3 cB3 fB3 lB4 cB4 fB4 lB6 cB6 fB6 lBF cBF fBF
   go_wp2
   go_roundw
   case rel=>exact ⟨j+1,hlt,by go_num,BF.out,HOF.out.trans hst.out⟩
   case measure=>simp [intOf];omega
  ·obtain rfl:nl=j:=by omega
   have HAL:Hid (nl=(latN f h).length):=h! (by rw [HNL.out,natI_len])
   obtain ⟨S0,hS0⟩ : ∃ S0,S0=latS f (latN f h) nl:=⟨_,rfl⟩
   have HSW:Hid (SwI f h (S0.set h true)):=h! (by rw [hS0,HAL.out];exact SwI.start HHH.out)
   obtain ⟨d,hd⟩ : ∃ d,S0[h]? = some d:=⟨_,List.getElem?_eq_getElem (by rw [hS0,latS_len];exact HHH.out)⟩
   have hfl:=flagsA_at hd
   rw [<-hS0] at BF
   clear hS0 hd
   obtain ⟨lB3,cB3,fB3⟩:=B3.out
   obtain ⟨lB4,cB4,fB4⟩:=B4.out
   obtain ⟨lB6,cB6,fB6⟩:=B6.out
   obtain ⟨lBF,cBF,fBF⟩:=BF.out
   go_upto_region 7 with (fail)
   have hst:Hid (Off (fun q=>q=fb) wr (wr.setCell ⟨fb,h,none⟩ (.bool true))):=h! (Off.set wr ⟨fb,h,none⟩ _)
   have B3_:Box (wr.setCell ⟨fb,h,none⟩ (.bool true)) (w.heap.size) #[.slice ap f.params.length cp,.int .i64 f.arrays,.int .i64 f.cells,.slice ab nb cb]:=by simpa using (B3.out.other (p:=⟨fb,h,none⟩) (.bool true) (by first | assumption | (simp;done) | omega | (dsimp only;omega)))
   have B4_:Box (wr.setCell ⟨fb,h,none⟩ (.bool true)) (w.heap.size+1) #[.int .i64 h,.slice none 0 0,.slice la nl lc,.slice none 0 0,.int .i64 0]:=by simpa using (B4.out.other (p:=⟨fb,h,none⟩) (.bool true) (by first | assumption | (simp;done) | omega | (dsimp only;omega)))
   have B6_:Box (wr.setCell ⟨fb,h,none⟩ (.bool true)) (w.heap.size+1+1) #[.int .i64 0,.slice none 0 0,.slice none 0 0,.slice none 0 0,.int .i64 0]:=by simpa using (B6.out.other (p:=⟨fb,h,none⟩) (.bool true) (by first | assumption | (simp;done) | omega | (dsimp only;omega)))
   have BF_:Box (wr.setCell ⟨fb,h,none⟩ (.bool true)) (fb) (((flagsA S0)).setIfInBounds h (.bool true)):=by first | exact (BF.out.set h (.bool true)) | simpa using (BF.out.set h (.bool true))
   have HW_:Below w.heap.size w (wr.setCell ⟨fb,h,none⟩ (.bool true)):=(HW.out.setCell (p:=⟨fb,h,none⟩) (by first | assumption | omega | (dsimp only;omega) | (have:=HW.out.size;omega) | (simp;done) | (simp;omega)) (.bool true))
   clear lB3 cB3 fB3 lB4 cB4 fB4 lB6 cB6 fB6 lBF cBF fBF
   clear B3 B4 B6 BF HW
   generalize (wr.setCell ⟨fb,h,none⟩ (.bool true))=w5 at *
   have B3:=h! B3_
   clear B3_
   have B4:=h! B4_
   clear B4_
   have B6:=h! B6_
   clear B6_
   have BF:=h! BF_
   clear BF_
   have HW:=h! HW_
   clear HW_
   obtain ⟨lB3,cB3,fB3⟩:=B3.out
   obtain ⟨lB4,cB4,fB4⟩:=B4.out
   obtain ⟨lB6,cB6,fB6⟩:=B6.out
   obtain ⟨lBF,cBF,fBF⟩:=BF.out
   rw [flagsA_set] at BF
   have HO5:Hid (Off (fun q=>q=fb) w3 w5):=h! (HOF.out.trans hst.out)
   clear hfl hst
   clear lB3 cB3 fB3 lB4 cB4 fB4 lB6 cB6 fB6 lBF cBF fBF
   go_wp2_with fail
   have BF5:=BF
   clear HW B3 B4 B6 BF HOF
   go_loopg [9] 300000 (fun g s9 wr => ∃ (S:List Bool) (c:Bool),s9 = .bool c/\SwI f h S/\Box wr fb (flagsA S)/\Off (fun k=>k=fb) w3 wr/\((c=true/\S.count false+1 <= g) \/ (c=false/\SwC f h S f.blocks.length)))
   case atStart=>exact ⟨_,true,rfl,HSW.out,BF5.out,HO5.out,.inl ⟨rfl,by have h9:=HSW.out.len;have h8:(S0.set h true).count false <= (S0.set h true).length:=List.count_le_length;have:=HNB.out;omega⟩⟩
   case round =>
    obtain ⟨S,c,rfl,hsw,hbx,ho,hc⟩:=hrel
    have HSI:=h! hsw
    have BF:=h! hbx
    have HOF:=h! ho
    clear hsw hbx ho HSW
    rcases hc with ⟨rfl,hg⟩ | ⟨rfl,hcl⟩
    ·have HG:=h! hg
     clear hg
     go_wp2_with fail
     have BF6:=BF
     have HO6:=HOF
     clear BF HOF
     go_loopw [9,10] (fun cv bv wr => ∃ (b:Nat) (S' : List Bool) (c' : Bool),b <= nb/\cv = .bool c' /\ bv = .int .i64 b/\SwI f h S' /\ Box wr fb (flagsA S')/\Off (fun k=>k=fb) w3 wr/\((c' = true/\S'.count false < S.count false) \/ (c' = false/\S' = S/\SwC f h S b))) (fun _ bv _=>nb - (intOf bv).toNat)
     case atStart=>exact ⟨0,S,false,Nat.zero_le _,rfl,rfl,HSI.out,BF6.out,HO6.out,.inr ⟨rfl,rfl,SwC.zero _ _ _⟩⟩
     case round =>
      obtain ⟨b,S',c',hb,rfl,rfl,hsw,hbx,ho,hc⟩:=hrel
      have HSJ:=h! hsw
      have BF:=h! hbx
      have HOF:=h! ho
      have HCC:=h! hc
      clear hsw hbx ho hc
      have HW:Hid (Below w.heap.size w wr):=h! (HW3.out.trans (HOF.out.below HW3.out.size (fun k _ hk=>by have h9:k=fb:=hk;omega)))
      have B3:=h! (B33.out.off HOF.out (fun hk=>by have h9:w.heap.size=fb:=hk;omega))
      have B4:=h! (B43.out.off HOF.out (fun hk=>by have h9:w.heap.size+1=fb:=hk;omega))
      have B6:=h! (B63.out.off HOF.out (fun hk=>by have h9:w.heap.size+1+1=fb:=hk;omega))
      by_cases hbt:b < nb
      ·obtain ⟨hpc,hpi⟩:=HPX.out b hbt
       obtain ⟨L,hLd⟩ : ∃ L,L=predN f f.blocks.length 0 b:=⟨_,rfl⟩
       rw [<-hLd] at hpi
       obtain ⟨ra,rc,hre⟩:=hpi.form
       rw [hre] at hpc hpi
       obtain ⟨lp,hlp⟩ : ∃ lp,lp=(natI L).length:=⟨_,rfl⟩
       rw [<-hlp] at hpc hpi
       have hpll:lp <= 512:=by rw [hlp,natI_len,hLd];have:=predN_len f b;have:=HNB.out;omega
       have HLP:=h! hlp
       have HPI:=h! hpi
       have HPC:=h! hpc
       have HLD:=h! hLd
       clear hpc hpi hlp hLd hre
       obtain ⟨lB3,cB3,fB3⟩:=B3.out
       obtain ⟨lB4,cB4,fB4⟩:=B4.out
       obtain ⟨lB6,cB6,fB6⟩:=B6.out
       obtain ⟨lBF,cBF,fBF⟩:=BF.out
       go_wp2_with fail
       clear lB3 cB3 fB3 lB4 cB4 fB4 lB6 cB6 fB6 lBF cBF fBF
       have BF7:=BF
       have HO7:=HOF
       clear HW B3 B4 B6 BF HOF
       go_loopw [9,11] (fun cv iv wr => ∃ (i:Nat) (S2:List Bool) (c2:Bool),i <= lp/\cv = .bool c2/\iv = .int .i64 i/\SwI f h S2/\Box wr fb (flagsA S2)/\Off (fun k=>k=fb) w3 wr/\((c2=true/\S2.count false < S.count false) \/ (c2=false/\S2=S/\SwC f h S b /\ ∀ p ∈ L.take i,S[p]? = some true))) (fun _ iv _=>lp - (intOf iv).toNat)
       case atStart=>exact ⟨0,S',c',Nat.zero_le _,rfl,rfl,HSJ.out,BF7.out,HO7.out,by
        rcases HCC.out with h9 | ⟨h1,h2,h3⟩
        ·exact .inl h9
        ·exact .inr ⟨h1,h2,h3,fun p hp=>by rw [List.take_zero] at hp;cases hp⟩⟩
       case round =>
        obtain ⟨i,S2,c2,hi,rfl,rfl,hsw,hbx,ho,hc⟩:=hrel
        have HSK:=h! hsw
        have BF:=h! hbx
        have HOF:=h! ho
        have HC2:=h! hc
        clear hsw hbx ho hc
        have HW:Hid (Below w.heap.size w wr):=h! (HW3.out.trans (HOF.out.below HW3.out.size (fun k _ hk=>by have h9:k=fb:=hk;omega)))
        have B3:=h! (B33.out.off HOF.out (fun hk=>by have h9:w.heap.size=fb:=hk;omega))
        have B4:=h! (B43.out.off HOF.out (fun hk=>by have h9:w.heap.size+1=fb:=hk;omega))
        have B6:=h! (B63.out.off HOF.out (fun hk=>by have h9:w.heap.size+1+1=fb:=hk;omega))
        have y1:=(HW.out.cell (p:=⟨pb,po+b,none⟩) hpbl).trans HPC.out
        obtain ⟨d,hd⟩ : ∃ d,S2[b]? = some d:=⟨_,List.getElem?_eq_getElem (by rw [HSK.out.len, <-HNB.out];exact hbt)⟩
        have hfl:=flagsA_at hd
        have HD:=h! hd
        clear hd
        by_cases hit:i < lp
        ·have stop:(d=false \/ b=h) -> Hid (∃ (S2' : List Bool) (c2' : Bool),S2' = S2/\c2' = c2/\((c2=true/\S2.count false < S.count false) \/ (c2=false/\S2=S/\SwC f h S (b+1)))):=fun hs=>h! (by
          refine ⟨_,_,rfl,rfl, ?_⟩
          rcases HC2.out with h9 | ⟨h1,h2,h3,h4⟩
          ·exact .inl h9
          ·refine .inr ⟨h1,h2,h3.next (.inl fun h5 => ?_)⟩
           rcases hs with hs | hs
           ·rw [<-h2,HD.out,hs] at h5;exact absurd h5.1 (by simp)
           ·exact h5.2 hs)
         cases d
         ·have HST:=stop (.inl rfl)
          clear stop
          obtain ⟨lB3,cB3,fB3⟩:=B3.out
          obtain ⟨lB4,cB4,fB4⟩:=B4.out
          obtain ⟨lB6,cB6,fB6⟩:=B6.out
          obtain ⟨lBF,cBF,fBF⟩:=BF.out
          go_wp2
          clear y1 hfl
          clear lB3 cB3 fB3 lB4 cB4 fB4 lB6 cB6 fB6 lBF cBF fBF
          go_roundw
          case rel =>
           obtain ⟨_,_, -, -,h9⟩:=HST.out
           exact ⟨b+1,S2,c2,hbt,rfl,by go_num,HSK.out,BF.out,HOF.out,h9⟩
          case measure=>simp [intOf];omega
         ·by_cases hbh:b=h
          ·have HST:=stop (.inr hbh)
           have hq:((b:Int) != (h:Int))=false:=by simp [hbh]
           clear stop hbh
           obtain ⟨lB3,cB3,fB3⟩:=B3.out
           obtain ⟨lB4,cB4,fB4⟩:=B4.out
           obtain ⟨lB6,cB6,fB6⟩:=B6.out
           obtain ⟨lBF,cBF,fBF⟩:=BF.out
           go_wp2
           clear y1 hfl
           clear lB3 cB3 fB3 lB4 cB4 fB4 lB6 cB6 fB6 lBF cBF fBF
           go_roundw
           case rel =>
            obtain ⟨_,_, -, -,h9⟩:=HST.out
            exact ⟨b+1,S2,c2,hbt,rfl,by go_num,HSK.out,BF.out,HOF.out,h9⟩
           case measure=>simp [intOf];omega
          ·have hq:((b:Int) != (h:Int))=true:=by simp;omega
           obtain ⟨p,hp⟩ : ∃ p,L[i]? = some p:=⟨_,List.getElem?_eq_getElem (by have h9:=HLP.out;rw [natI_len] at h9;omega)⟩
           have hpm:=List.mem_of_getElem? hp
           rw [HLD.out,predN_zero,List.mem_filter,List.mem_range] at hpm
           have hpn:p < nb:=by rw [HNB.out];exact hpm.1
           have HBT:Hid (b ∈ toB f p):=h! (by simpa using hpm.2)
           obtain ⟨rb,ro,rc2,he,hrl, -, -,hrx2⟩:=ints_cells HPI.out (by rw [<-HLP.out];omega)
           rw [<-HLP.out] at he hrx2
           injection he with e1 e2 e3
           subst e1
           subst e3
           have y2:=(HW.out.cell (p:=⟨rb,ro+i,none⟩) hrl).trans (hrx2 i hit)
           have hgv:(natI L).getD i 0=(p:Int):=by unfold natI;rw [List.getD_eq_getElem?_getD,List.getElem?_map,hp];rfl
           rw [hgv] at y2
           obtain ⟨e,he⟩ : ∃ e,S2[p]? = some e:=⟨_,List.getElem?_eq_getElem (by rw [HSK.out.len, <-HNB.out];exact hpn)⟩
           have hfl2:=flagsA_at he
           have HE:=h! he
           have HP:=h! hp
           have HBH:=h! hbh
           clear stop hpm hrx2 hgv he hp e2 hbh
           cases e
           ·have HNX:Hid (SwI f h (S2.set p true)):=h! (HSK.out.put HD.out HBH.out HBT.out)
            have HCT:Hid ((S2.set p true).count false < S.count false):=h! (by
             have h1:=count_set HE.out
             rcases HC2.out with ⟨-,h9⟩ | ⟨-,h9, -⟩
             ·omega
             ·rw [<-h9];omega)
            obtain ⟨lB3,cB3,fB3⟩:=B3.out
            obtain ⟨lB4,cB4,fB4⟩:=B4.out
            obtain ⟨lB6,cB6,fB6⟩:=B6.out
            obtain ⟨lBF,cBF,fBF⟩:=BF.out
            go_upto_region 18 with (fail)
            have hst:Hid (Off (fun q=>q=fb) wr (wr.setCell ⟨fb,p,none⟩ (.bool true))):=h! (Off.set wr ⟨fb,p,none⟩ _)
            have B3_:Box (wr.setCell ⟨fb,p,none⟩ (.bool true)) (w.heap.size) #[.slice ap f.params.length cp,.int .i64 f.arrays,.int .i64 f.cells,.slice ab nb cb]:=by simpa using (B3.out.other (p:=⟨fb,p,none⟩) (.bool true) (by first | assumption | (simp;done) | omega | (dsimp only;omega)))
            have B4_:Box (wr.setCell ⟨fb,p,none⟩ (.bool true)) (w.heap.size+1) #[.int .i64 h,.slice none 0 0,.slice la nl lc,.slice none 0 0,.int .i64 0]:=by simpa using (B4.out.other (p:=⟨fb,p,none⟩) (.bool true) (by first | assumption | (simp;done) | omega | (dsimp only;omega)))
            have B6_:Box (wr.setCell ⟨fb,p,none⟩ (.bool true)) (w.heap.size+1+1) #[.int .i64 0,.slice none 0 0,.slice none 0 0,.slice none 0 0,.int .i64 0]:=by simpa using (B6.out.other (p:=⟨fb,p,none⟩) (.bool true) (by first | assumption | (simp;done) | omega | (dsimp only;omega)))
            have BF_:Box (wr.setCell ⟨fb,p,none⟩ (.bool true)) (fb) (((flagsA S2)).setIfInBounds p (.bool true)):=by first | exact (BF.out.set p (.bool true)) | simpa using (BF.out.set p (.bool true))
            have HW_:Below w.heap.size w (wr.setCell ⟨fb,p,none⟩ (.bool true)):=(HW.out.setCell (p:=⟨fb,p,none⟩) (by first | assumption | omega | (dsimp only;omega) | (have:=HW.out.size;omega) | (simp;done) | (simp;omega)) (.bool true))
            clear lB3 cB3 fB3 lB4 cB4 fB4 lB6 cB6 fB6 lBF cBF fBF
            clear B3 B4 B6 BF HW
            generalize (wr.setCell ⟨fb,p,none⟩ (.bool true))=w8 at *
            have B3:=h! B3_
            clear B3_
            have B4:=h! B4_
            clear B4_
            have B6:=h! B6_
            clear B6_
            have BF:=h! BF_
            clear BF_
            have HW:=h! HW_
            clear HW_
            obtain ⟨lB3,cB3,fB3⟩:=B3.out
            obtain ⟨lB4,cB4,fB4⟩:=B4.out
            obtain ⟨lB6,cB6,fB6⟩:=B6.out
            obtain ⟨lBF,cBF,fBF⟩:=BF.out
            rw [flagsA_set] at BF
            clear y1 y2 hfl hfl2
            clear lB3 cB3 fB3 lB4 cB4 fB4 lB6 cB6 fB6 lBF cBF fBF
            go_wp2
            go_roundw
            case rel=>exact ⟨i+1,S2.set p true,true,hit,rfl,by go_num,HNX.out,BF.out,HOF.out.trans hst.out,.inl ⟨rfl,HCT.out⟩⟩
            case measure=>simp [intOf];omega
           ·have HCT:Hid ((c2=true/\S2.count false < S.count false) \/ (c2=false/\S2=S/\SwC f h S b /\ ∀ p ∈ L.take (i+1),S[p]? = some true)):=h! (by
             rcases HC2.out with h9 | ⟨h1,h2,h3,h4⟩
             ·exact .inl h9
             ·refine .inr ⟨h1,h2,h3,fun q hq => ?_⟩
              rw [take_snoc _ _ _ HP.out,List.mem_append,List.mem_singleton] at hq
              rcases hq with hq | rfl
              ·exact h4 q hq
              ·rw [<-h2];exact HE.out)
            obtain ⟨lB3,cB3,fB3⟩:=B3.out
            obtain ⟨lB4,cB4,fB4⟩:=B4.out
            obtain ⟨lB6,cB6,fB6⟩:=B6.out
            obtain ⟨lBF,cBF,fBF⟩:=BF.out
            go_wp2
            clear y1 y2 hfl hfl2
            clear lB3 cB3 fB3 lB4 cB4 fB4 lB6 cB6 fB6 lBF cBF fBF
            go_roundw
            case rel=>exact ⟨i+1,S2,c2,hit,rfl,by go_num,HSK.out,BF.out,HOF.out,HCT.out⟩
            case measure=>simp [intOf];omega
        ·obtain rfl:lp=i:=by omega
         have HST:Hid ((c2=true/\S2.count false < S.count false) \/ (c2=false/\S2=S/\SwC f h S (b+1))):=h! (by
          rcases HC2.out with h9 | ⟨h1,h2,h3,h4⟩
          ·exact .inl h9
          ·refine .inr ⟨h1,h2,h3.next (.inr fun p hp=>h4 p ?_)⟩
           rw [List.take_of_length_le (by have h8:=HLP.out;rw [natI_len] at h8;omega),HLD.out];exact hp)
         obtain ⟨lB3,cB3,fB3⟩:=B3.out
         obtain ⟨lB4,cB4,fB4⟩:=B4.out
         obtain ⟨lB6,cB6,fB6⟩:=B6.out
         obtain ⟨lBF,cBF,fBF⟩:=BF.out
         go_wp2
         clear y1 hfl
         clear lB3 cB3 fB3 lB4 cB4 fB4 lB6 cB6 fB6 lBF cBF fBF
         go_roundw
         case rel=>exact ⟨b+1,S2,c2,hbt,rfl,by go_num,HSK.out,BF.out,HOF.out,HST.out⟩
         case measure=>simp [intOf];omega
      ·obtain rfl:nb=b:=by omega
       have HG1:=HG
       obtain ⟨lB3,cB3,fB3⟩:=B3.out
       obtain ⟨lB4,cB4,fB4⟩:=B4.out
       obtain ⟨lB6,cB6,fB6⟩:=B6.out
       obtain ⟨lBF,cBF,fBF⟩:=BF.out
       rcases HCC.out with ⟨rfl,hct⟩ | ⟨rfl,rfl,hcl⟩
       ·have HCT:=h! hct
        clear hct HCC
        go_wp2
        clear lB3 cB3 fB3 lB4 cB4 fB4 lB6 cB6 fB6 lBF cBF fBF
        go_roundg (S'.count false+1)
        case measure=>have:=HG1.out;have:=HCT.out;omega
        case rel=>exact ⟨S',true,rfl,HSJ.out,BF.out,HOF.out,.inl ⟨rfl,Nat.le_refl _⟩⟩
       ·have HCL:=h! hcl
        clear hcl HCC
        go_wp2
        clear lB3 cB3 fB3 lB4 cB4 fB4 lB6 cB6 fB6 lBF cBF fBF
        go_roundg 0
        case measure=>have:=HG1.out;omega
        case rel=>exact ⟨S',false,rfl,HSJ.out,BF.out,HOF.out,.inr ⟨rfl,by rw [<-HNB.out];exact HCL.out⟩⟩
    ·have HDN:Hid (∀ b:Nat,S[b]? = some true ↔ InL f h b):=h! ((HSI.out.work hcl).done HHH.out)
     have HWK:Hid (WorkI f h S []):=h! (HSI.out.work hcl)
     have HSL:Hid (S.length=nb):=h! (by rw [HNB.out];exact HSI.out.len)
     clear hcl
     have HW:Hid (Below w.heap.size w wr):=h! (HW3.out.trans (HOF.out.below HW3.out.size (fun k _ hk=>by have h9:k=fb:=hk;omega)))
     have B3:=h! (B33.out.off HOF.out (fun hk=>by have h9:w.heap.size=fb:=hk;omega))
     have B4:=h! (B43.out.off HOF.out (fun hk=>by have h9:w.heap.size+1=fb:=hk;omega))
     have B6:=h! (B63.out.off HOF.out (fun hk=>by have h9:w.heap.size+1+1=fb:=hk;omega))
     obtain ⟨lB3,cB3,fB3⟩:=B3.out
     obtain ⟨lB4,cB4,fB4⟩:=B4.out
     obtain ⟨lB6,cB6,fB6⟩:=B6.out
     obtain ⟨lBF,cBF,fBF⟩:=BF.out
     go_wp2_with fail
     clear lB3 cB3 fB3 lB4 cB4 fB4 lB6 cB6 fB6 lBF cBF fBF
     obtain ⟨W4,hW4⟩ : ∃ W4,W4=wr:=⟨_,rfl⟩
     rw [<-hW4] at HW B3 B4 B6 BF HOF ⊢
     clear hW4
     have HW4:=HW
     have B34:=B3
     have B44:=B4
     have B64:=B6
     have BF4:=BF
     have g6:w.heap.size+1+1 < W4.heap.size:=B6.out.lt
     clear HW B3 B4 B6 BF HOF
     go_loopw [12] (fun iv wr => ∃ (b:Nat) (a1:Option Addr) (c1:Nat) (S1:Foot) (a2:Option Addr) (c2:Nat) (S2:Foot),b <= nb/\iv = .int .i64 b/\Box wr (w.heap.size+1) #[.int .i64 h,.slice a1 (bodyK f h b).length c1,.slice la nl lc,.slice a2 (exitK f h b).length c2,.int .i64 0]/\OInts wr S1 (.slice a1 (bodyK f h b).length c1) (natI (bodyK f h b))/\OInts wr S2 (.slice a2 (exitK f h b).length c2) (natI (exitK f h b))/\S1.off S2/\(∀ k,S1 k -> W4.heap.size <= k)/\(∀ k,S2 k -> W4.heap.size <= k)/\Off (fun k=>k=w.heap.size+1) W4 wr) (fun iv _=>nb - (intOf iv).toNat)
     case atStart=>exact ⟨0,none,0,Foot.none,none,0,Foot.none,Nat.zero_le _,rfl,B44.out,OInts.nil none,OInts.nil none,fun k h=>h.elim,fun k h=>h.elim,fun k h=>h.elim,Off.refl _ _⟩
     case round =>
      obtain ⟨b,a1,c1,S1,a2,c2,S2,hb,rfl,hbx,ho1,ho2,hoff,hs1,hs2,ho⟩:=hrel
      obtain ⟨n1,hn1'⟩ : ∃ n1,n1=(bodyK f h b).length:=⟨_,rfl⟩
      obtain ⟨n2,hn2'⟩ : ∃ n2,n2=(exitK f h b).length:=⟨_,rfl⟩
      rw [<-hn1', <-hn2'] at hbx
      rw [<-hn1'] at ho1
      rw [<-hn2'] at ho2
      have hn15:n1 <= 512:=by rw [hn1'];have:=bodyK_len f h b;omega
      have hn25:n2 <= 512:=by rw [hn2'];have:=exitK_len f h b;omega
      have HN1:=h! hn1'
      have HN2:=h! hn2'
      have HO1:=h! ho1
      have HO2:=h! ho2
      have HOO:=h! hoff
      have HS1:=h! hs1
      have HS2:=h! hs2
      have HOF:=h! ho
      have B4:=h! hbx
      have HW:Hid (Below w.heap.size w wr):=h! (HW4.out.trans (ho.below HW4.out.size (fun k _ hk=>by have h9:k=w.heap.size+1:=hk;omega)))
      have B3:=h! (B34.out.off ho (fun hk=>by have h9:w.heap.size=w.heap.size+1:=hk;omega))
      have B6:=h! (B64.out.off ho (fun hk=>by have h9:w.heap.size+1+1=w.heap.size+1:=hk;omega))
      have BF:=h! (BF4.out.off ho (fun hk=>by have h9:fb=w.heap.size+1:=hk;omega))
      clear hn1' hn2' ho1 ho2 hoff hs1 hs2 ho hbx
      by_cases hbt:b < nb
      ·obtain ⟨d,hd⟩ : ∃ d,S[b]? = some d:=⟨_,List.getElem?_eq_getElem (by rw [HSL.out];exact hbt)⟩
       have hfl:=flagsA_at hd
       have HD:=h! hd
       have hnb1:¬ S1 (w.heap.size+1):=fun h=>by have:=HS1.out _ h;omega
       have hnb2:¬ S2 (w.heap.size+1):=fun h=>by have:=HS2.out _ h;omega
       clear hd
       cases d
       ·have HNI:Hid (¬ InL f h b):=h! (fun hi=>by have h9:=(HDN.out b).2 hi;rw [HD.out] at h9;cases h9)
        obtain ⟨hpc,hpi⟩:=HPX.out b hbt
        obtain ⟨L,hLd⟩ : ∃ L,L=predN f f.blocks.length 0 b:=⟨_,rfl⟩
        rw [<-hLd] at hpi
        obtain ⟨ra,rc,hre⟩:=hpi.form
        rw [hre] at hpc hpi
        obtain ⟨lp,hlp⟩ : ∃ lp,lp=(natI L).length:=⟨_,rfl⟩
        rw [<-hlp] at hpc hpi
        have hpll:lp <= 512:=by rw [hlp,natI_len,hLd];have:=predN_len f b;have:=HNB.out;omega
        have HLP:=h! hlp
        have HPI:=h! hpi
        have HPC:=h! hpc
        have HLD:=h! hLd
        clear hpc hpi hlp hLd hre
        obtain ⟨lB3,cB3,fB3⟩:=B3.out
        obtain ⟨lB4,cB4,fB4⟩:=B4.out
        obtain ⟨lB6,cB6,fB6⟩:=B6.out
        obtain ⟨lBF,cBF,fBF⟩:=BF.out
        go_wp2_with fail
        clear hfl
        clear lB3 cB3 fB3 lB4 cB4 fB4 lB6 cB6 fB6 lBF cBF fBF
        obtain ⟨W5,hW5⟩ : ∃ W5,W5=wr:=⟨_,rfl⟩
        rw [<-hW5] at HO1 HO2 HOF HW B3 B4 B6 BF ⊢
        clear hW5
        go_loopw [13,14] (fun ev iv wr => ∃ i:Nat,i <= lp/\ev = .bool ((L.take i).any fun p=>S.getD p false)/\iv = .int .i64 i/\wr=W5) (fun _ iv _=>lp - (intOf iv).toNat)
        case atStart=>exact ⟨0,Nat.zero_le _,by rw [List.take_zero];rfl,rfl,rfl⟩
        case round =>
         obtain ⟨i,hi,rfl,rfl,rfl⟩:=hrel
         obtain ⟨ex,hex⟩ : ∃ ex,ex=(L.take i).any fun p=>S.getD p false:=⟨_,rfl⟩
         rw [<-hex]
         have HEX:=h! hex
         have y1:=(HW.out.cell (p:=⟨pb,po+b,none⟩) hpbl).trans HPC.out
         clear hex
         by_cases hit:i < lp
         ·obtain ⟨p,hp⟩ : ∃ p,L[i]? = some p:=⟨_,List.getElem?_eq_getElem (by have h9:=HLP.out;rw [natI_len] at h9;omega)⟩
          have hpn:p < nb:=by
           have hpm:=List.mem_of_getElem? hp
           rw [HLD.out,predN_zero,List.mem_filter,List.mem_range] at hpm
           rw [HNB.out];exact hpm.1
          obtain ⟨rb,ro,rc2,he,hrl, -, -,hrx2⟩:=ints_cells HPI.out (by rw [<-HLP.out];omega)
          rw [<-HLP.out] at he hrx2
          injection he with e1 e2 e3
          subst e1
          subst e3
          have y2:=(HW.out.cell (p:=⟨rb,ro+i,none⟩) hrl).trans (hrx2 i hit)
          have hgv:(natI L).getD i 0=(p:Int):=by unfold natI;rw [List.getD_eq_getElem?_getD,List.getElem?_map,hp];rfl
          rw [hgv] at y2
          obtain ⟨e,he⟩ : ∃ e,S[p]? = some e:=⟨_,List.getElem?_eq_getElem (by rw [HSL.out];exact hpn)⟩
          have hfl2:=flagsA_at he
          have HNX:Hid (((L.take (i+1)).any fun p=>S.getD p false)=(ex || e)):=h! (by
           rw [take_snoc _ _ _ hp,List.any_append, <-HEX.out]
           simp [List.getD_eq_getElem?_getD,he])
          clear hrx2 hgv hp he e2
          obtain ⟨lB3,cB3,fB3⟩:=B3.out
          obtain ⟨lB4,cB4,fB4⟩:=B4.out
          obtain ⟨lB6,cB6,fB6⟩:=B6.out
          obtain ⟨lBF,cBF,fBF⟩:=BF.out
          cases ex
          ·go_wp2
           clear y1 y2 hfl2
           clear lB3 cB3 fB3 lB4 cB4 fB4 lB6 cB6 fB6 lBF cBF fBF
           go_roundw
           case rel=>exact ⟨i+1,hit,by rw [HNX.out];simp,by go_num,trivial⟩
           case measure=>simp [intOf];omega
          ·go_wp2
           clear y1 y2 hfl2
           clear lB3 cB3 fB3 lB4 cB4 fB4 lB6 cB6 fB6 lBF cBF fBF
           go_roundw
           case rel=>exact ⟨i+1,hit,by rw [HNX.out];simp,by go_num,trivial⟩
           case measure=>simp [intOf];omega
         ·obtain rfl:lp=i:=by omega
          have HEE:Hid (ex=true ↔ ∃ q,InL f h q/\b ∈ toB f q):=h! (by
           have h9:=HEX.out
           rw [List.take_of_length_le (by have h8:=HLP.out;rw [natI_len] at h8;omega),HLD.out] at h9
           rw [h9];exact exit_any HHH.out HWK.out)
          have HNB1:Hid (bodyK f h (b+1)=bodyK f h b):=h! (bodyK_no HNI.out)
          clear HEX
          obtain ⟨lB3,cB3,fB3⟩:=B3.out
          obtain ⟨lB4,cB4,fB4⟩:=B4.out
          obtain ⟨lB6,cB6,fB6⟩:=B6.out
          obtain ⟨lBF,cBF,fBF⟩:=BF.out
          cases ex
          ·have HNE:Hid (exitK f h (b+1)=exitK f h b):=h! (exitK_no (fun h9=>by have:=HEE.out.2 h9;cases this))
           go_wp2
           clear y1
           clear lB3 cB3 fB3 lB4 cB4 fB4 lB6 cB6 fB6 lBF cBF fBF
           go_roundw
           case rel=>exact ⟨b+1,a1,c1,S1,a2,c2,S2,hbt,by go_num,by rw [HNB1.out,HNE.out, <-HN1.out, <-HN2.out];exact B4.out,by rw [HNB1.out, <-HN1.out];exact HO1.out,by rw [HNE.out, <-HN2.out];exact HO2.out,HOO.out,HS1.out,HS2.out,HOF.out⟩
           case measure=>simp [intOf];omega
          ·have HNE:Hid (exitK f h (b+1)=exitK f h b ++ [b]):=h! (exitK_yes HNI.out (HEE.out.1 rfl))
           have HOLN:Hid ((natI (exitK f h b)).length=n2):=h! (by rw [natI_len, <-HN2.out])
           go_wp2_with (at_builtin;go_loud (refine wpList_iapps (ys:=[(b:Int)]) (m:=1) rfl _ _ rfl HOLN.out rfl rfl rfl (HO2.out.off (Off.alloc Foot.none wr _) (fun _ _ h=>h)) (ints_of_box (Box.new _ _ _) ⟨by omega,by omega⟩) (by omega) ?_);intro a3 c3 w11 G2 hO hG hof;obtain ⟨ly,cy,fy⟩:=(B4.out.alloc (.cells #[.int .i64 b] 3)).off hof hnb2)
           clear ly cy fy y1
           clear lB3 cB3 fB3 lB4 cB4 fB4 lB6 cB6 fB6 lBF cBF fBF
           have HBL2:Hid (Box w11 (w.heap.size+1) #[.int .i64 h,.slice a1 n1 c1,.slice la nl lc,.slice a2 n2 c2,.int .i64 0]):=h! ((B4.out.alloc (.cells #[.int .i64 b] 3)).off hof hnb2)
           have HO11:Hid (OInts w11 S1 (.slice a1 n1 c1) (natI (bodyK f h b))):=h! ((HO1.out.off (Off.alloc Foot.none wr (.cells #[.int .i64 b] 3)) (fun _ _ h=>h)).off hof HOO.out)
           have HGB:Hid (∀ k,G2 k -> W4.heap.size <= k):=h! (fun k hk=>by
            rcases hG k hk with h | h
            ·exact HS2.out k h
            ·have:=HOF.out.size;simp at h;omega)
           have HGO:Hid (S1.off G2):=h! (fun k h1 h2=>by
            rcases hG k h2 with h | h
            ·exact HOO.out k h1 h
            ·have:=HO1.out.lt k h1;simp at h;omega)
           have HO9:Hid (Off (fun k=>k=w.heap.size+1) W4 w11):=h! (Off.grow (HOF.out.trans (Off.alloc _ _ _)) hof (fun k hk=>.inr (HS2.out k hk)))
           have hnat:natI (exitK f h b) ++ [(b:Int)]=natI (exitK f h b ++ [b]):=by unfold natI;rw [List.map_append];rfl
           rw [hnat] at hO
           have HON:=h! hO
           have HL2:Hid ((exitK f h b ++ [b]).length=n2+1):=h! (by rw [List.length_append,HN2.out];rfl)
           clear hO hG hof hnat HEE
           obtain ⟨ly,cy,fy⟩:=HBL2.out
           go_wp2
           clear ly cy fy
           go_roundw
           case rel =>
            refine ⟨b+1,a1,c1,S1,a3,c3,G2,hbt,by go_num, ?_, ?_, ?_,HGO.out,HS1.out,HGB.out,HO9.out.trans ((Off.set w11 ⟨w.heap.size+1,3,none⟩ _).mono fun k _ hk=>hk)⟩
            ·rw [HNB1.out,HNE.out,HL2.out, <-HN1.out]
             simpa using HBL2.out.set 3 (.slice a3 (n2+1) c3)
            ·rw [HNB1.out, <-HN1.out]
             exact HO11.out.off (Off.set w11 ⟨w.heap.size+1,3,none⟩ _) (fun k hk e=>by have h9:k=w.heap.size+1:=e;have:=HS1.out k hk;omega)
            ·rw [HNE.out,HL2.out]
             exact HON.out.off (Off.set w11 ⟨w.heap.size+1,3,none⟩ _) (fun k hk e=>by have h9:k=w.heap.size+1:=e;have:=HGB.out k hk;omega)
           case measure=>simp [intOf];omega
       ·have HIN:Hid (InL f h b):=h! ((HDN.out b).1 HD.out)
        have HNB1:Hid (bodyK f h (b+1)=bodyK f h b ++ [b]):=h! (bodyK_yes HIN.out)
        have HNE:Hid (exitK f h (b+1)=exitK f h b):=h! (exitK_in HIN.out)
        have HOLN:Hid ((natI (bodyK f h b)).length=n1):=h! (by rw [natI_len, <-HN1.out])
        obtain ⟨lB3,cB3,fB3⟩:=B3.out
        obtain ⟨lB4,cB4,fB4⟩:=B4.out
        obtain ⟨lB6,cB6,fB6⟩:=B6.out
        obtain ⟨lBF,cBF,fBF⟩:=BF.out
        go_wp2_with (at_builtin;go_loud (refine wpList_iapps (ys:=[(b:Int)]) (m:=1) rfl _ _ rfl HOLN.out rfl rfl rfl (HO1.out.off (Off.alloc Foot.none wr _) (fun _ _ h=>h)) (ints_of_box (Box.new _ _ _) ⟨by omega,by omega⟩) (by omega) ?_);intro a3 c3 w11 G2 hO hG hof;obtain ⟨ly,cy,fy⟩:=(B4.out.alloc (.cells #[.int .i64 b] 3)).off hof hnb1)
        clear ly cy fy hfl
        clear lB3 cB3 fB3 lB4 cB4 fB4 lB6 cB6 fB6 lBF cBF fBF
        have HBL2:Hid (Box w11 (w.heap.size+1) #[.int .i64 h,.slice a1 n1 c1,.slice la nl lc,.slice a2 n2 c2,.int .i64 0]):=h! ((B4.out.alloc (.cells #[.int .i64 b] 3)).off hof hnb1)
        have HO22:Hid (OInts w11 S2 (.slice a2 n2 c2) (natI (exitK f h b))):=h! ((HO2.out.off (Off.alloc Foot.none wr (.cells #[.int .i64 b] 3)) (fun _ _ h=>h)).off hof (fun k h1 h2=>HOO.out k h2 h1))
        have HGB:Hid (∀ k,G2 k -> W4.heap.size <= k):=h! (fun k hk=>by
         rcases hG k hk with h | h
         ·exact HS1.out k h
         ·have:=HOF.out.size;simp at h;omega)
        have HGO:Hid (G2.off S2):=h! (fun k h1 h2=>by
         rcases hG k h1 with h | h
         ·exact HOO.out k h h2
         ·have:=HO2.out.lt k h2;simp at h;omega)
        have HO9:Hid (Off (fun k=>k=w.heap.size+1) W4 w11):=h! (Off.grow (HOF.out.trans (Off.alloc _ _ _)) hof (fun k hk=>.inr (HS1.out k hk)))
        have hnat:natI (bodyK f h b) ++ [(b:Int)]=natI (bodyK f h b ++ [b]):=by unfold natI;rw [List.map_append];rfl
        rw [hnat] at hO
        have HON:=h! hO
        have HL2:Hid ((bodyK f h b ++ [b]).length=n1+1):=h! (by rw [List.length_append,HN1.out];rfl)
        clear hO hG hof hnat
        obtain ⟨ly,cy,fy⟩:=HBL2.out
        go_wp2
        clear ly cy fy
        go_roundw
        case rel =>
         refine ⟨b+1,a3,c3,G2,a2,c2,S2,hbt,by go_num, ?_, ?_, ?_,HGO.out,HGB.out,HS2.out,HO9.out.trans ((Off.set w11 ⟨w.heap.size+1,1,none⟩ _).mono fun k _ hk=>hk)⟩
         ·rw [HNB1.out,HNE.out,HL2.out, <-HN2.out]
          simpa using HBL2.out.set 1 (.slice a3 (n1+1) c3)
         ·rw [HNB1.out,HL2.out]
          exact HON.out.off (Off.set w11 ⟨w.heap.size+1,1,none⟩ _) (fun k hk e=>by have h9:k=w.heap.size+1:=e;have:=HGB.out k hk;omega)
         ·rw [HNE.out, <-HN2.out]
          exact HO22.out.off (Off.set w11 ⟨w.heap.size+1,1,none⟩ _) (fun k hk e=>by have h9:k=w.heap.size+1:=e;have:=HS2.out k hk;omega)
        case measure=>simp [intOf];omega
      ·obtain rfl:nb=b:=by omega
       have HE1:Hid (bodyK f h nb=bodyN f h):=h! (by rw [HNB.out];exact bodyK_all f h)
       have HE2:Hid (exitK f h nb=exitN f h):=h! (by rw [HNB.out];exact exitK_all f h)
       have HO6:Hid (OffF (fun k=>k=w.heap.size+1+1) wr wr):=h! (Off.refl _ _)
       obtain ⟨lB3,cB3,fB3⟩:=B3.out
       obtain ⟨lB4,cB4,fB4⟩:=B4.out
       obtain ⟨lB6,cB6,fB6⟩:=B6.out
       obtain ⟨lBF,cBF,fBF⟩:=BF.out
       go_wp2_with fail
       have B3_:Box (((((wr.setCell ⟨w.heap.size+1+1,0,none⟩ (.int .i64 h)).setCell ⟨w.heap.size+1+1,1,none⟩ (.slice a1 n1 c1)).setCell ⟨w.heap.size+1+1,2,none⟩ (.slice la nl lc)).setCell ⟨w.heap.size+1+1,3,none⟩ (.slice a2 n2 c2)).setCell ⟨w.heap.size+1+1,4,none⟩ (.int .i64 0)) (w.heap.size) #[.slice ap f.params.length cp,.int .i64 f.arrays,.int .i64 f.cells,.slice ab nb cb]:=by simpa using (((((B3.out.other (p:=⟨w.heap.size+1+1,0,none⟩) (.int .i64 h) (by first | assumption | (simp;done) | omega | (dsimp only;omega))).other (p:=⟨w.heap.size+1+1,1,none⟩) (.slice a1 n1 c1) (by first | assumption | (simp;done) | omega | (dsimp only;omega))).other (p:=⟨w.heap.size+1+1,2,none⟩) (.slice la nl lc) (by first | assumption | (simp;done) | omega | (dsimp only;omega))).other (p:=⟨w.heap.size+1+1,3,none⟩) (.slice a2 n2 c2) (by first | assumption | (simp;done) | omega | (dsimp only;omega))).other (p:=⟨w.heap.size+1+1,4,none⟩) (.int .i64 0) (by first | assumption | (simp;done) | omega | (dsimp only;omega)))
       have B4_:Box (((((wr.setCell ⟨w.heap.size+1+1,0,none⟩ (.int .i64 h)).setCell ⟨w.heap.size+1+1,1,none⟩ (.slice a1 n1 c1)).setCell ⟨w.heap.size+1+1,2,none⟩ (.slice la nl lc)).setCell ⟨w.heap.size+1+1,3,none⟩ (.slice a2 n2 c2)).setCell ⟨w.heap.size+1+1,4,none⟩ (.int .i64 0)) (w.heap.size+1) #[.int .i64 h,.slice a1 n1 c1,.slice la nl lc,.slice a2 n2 c2,.int .i64 0]:=by simpa using (((((B4.out.other (p:=⟨w.heap.size+1+1,0,none⟩) (.int .i64 h) (by first | assumption | (simp;done) | omega | (dsimp only;omega))).other (p:=⟨w.heap.size+1+1,1,none⟩) (.slice a1 n1 c1) (by first | assumption | (simp;done) | omega | (dsimp only;omega))).other (p:=⟨w.heap.size+1+1,2,none⟩) (.slice la nl lc) (by first | assumption | (simp;done) | omega | (dsimp only;omega))).other (p:=⟨w.heap.size+1+1,3,none⟩) (.slice a2 n2 c2) (by first | assumption | (simp;done) | omega | (dsimp only;omega))).other (p:=⟨w.heap.size+1+1,4,none⟩) (.int .i64 0) (by first | assumption | (simp;done) | omega | (dsimp only;omega)))
       have B6_:Box (((((wr.setCell ⟨w.heap.size+1+1,0,none⟩ (.int .i64 h)).setCell ⟨w.heap.size+1+1,1,none⟩ (.slice a1 n1 c1)).setCell ⟨w.heap.size+1+1,2,none⟩ (.slice la nl lc)).setCell ⟨w.heap.size+1+1,3,none⟩ (.slice a2 n2 c2)).setCell ⟨w.heap.size+1+1,4,none⟩ (.int .i64 0)) (w.heap.size+1+1) #[(.int .i64 h),(.slice a1 n1 c1),(.slice la nl lc),(.slice a2 n2 c2),(.int .i64 0)]:=by simpa using (((((B6.out.set 0 (.int .i64 h)).set 1 (.slice a1 n1 c1)).set 2 (.slice la nl lc)).set 3 (.slice a2 n2 c2)).set 4 (.int .i64 0))
       have BF_:Box (((((wr.setCell ⟨w.heap.size+1+1,0,none⟩ (.int .i64 h)).setCell ⟨w.heap.size+1+1,1,none⟩ (.slice a1 n1 c1)).setCell ⟨w.heap.size+1+1,2,none⟩ (.slice la nl lc)).setCell ⟨w.heap.size+1+1,3,none⟩ (.slice a2 n2 c2)).setCell ⟨w.heap.size+1+1,4,none⟩ (.int .i64 0)) (fb) (flagsA S):=by first | exact (((((BF.out.other (p:=⟨w.heap.size+1+1,0,none⟩) (.int .i64 h) (by first | assumption | (simp;done) | omega | (dsimp only;omega))).other (p:=⟨w.heap.size+1+1,1,none⟩) (.slice a1 n1 c1) (by first | assumption | (simp;done) | omega | (dsimp only;omega))).other (p:=⟨w.heap.size+1+1,2,none⟩) (.slice la nl lc) (by first | assumption | (simp;done) | omega | (dsimp only;omega))).other (p:=⟨w.heap.size+1+1,3,none⟩) (.slice a2 n2 c2) (by first | assumption | (simp;done) | omega | (dsimp only;omega))).other (p:=⟨w.heap.size+1+1,4,none⟩) (.int .i64 0) (by first | assumption | (simp;done) | omega | (dsimp only;omega))) | simpa using (((((BF.out.other (p:=⟨w.heap.size+1+1,0,none⟩) (.int .i64 h) (by first | assumption | (simp;done) | omega | (dsimp only;omega))).other (p:=⟨w.heap.size+1+1,1,none⟩) (.slice a1 n1 c1) (by first | assumption | (simp;done) | omega | (dsimp only;omega))).other (p:=⟨w.heap.size+1+1,2,none⟩) (.slice la nl lc) (by first | assumption | (simp;done) | omega | (dsimp only;omega))).other (p:=⟨w.heap.size+1+1,3,none⟩) (.slice a2 n2 c2) (by first | assumption | (simp;done) | omega | (dsimp only;omega))).other (p:=⟨w.heap.size+1+1,4,none⟩) (.int .i64 0) (by first | assumption | (simp;done) | omega | (dsimp only;omega)))
       have HO6_:=(((((HO6.out.other (p:=⟨w.heap.size+1+1,0,none⟩) (.int .i64 h) (by simp)).other (p:=⟨w.heap.size+1+1,1,none⟩) (.slice a1 n1 c1) (by simp)).other (p:=⟨w.heap.size+1+1,2,none⟩) (.slice la nl lc) (by simp)).other (p:=⟨w.heap.size+1+1,3,none⟩) (.slice a2 n2 c2) (by simp)).other (p:=⟨w.heap.size+1+1,4,none⟩) (.int .i64 0) (by simp))
       have HW_:Below w.heap.size w (((((wr.setCell ⟨w.heap.size+1+1,0,none⟩ (.int .i64 h)).setCell ⟨w.heap.size+1+1,1,none⟩ (.slice a1 n1 c1)).setCell ⟨w.heap.size+1+1,2,none⟩ (.slice la nl lc)).setCell ⟨w.heap.size+1+1,3,none⟩ (.slice a2 n2 c2)).setCell ⟨w.heap.size+1+1,4,none⟩ (.int .i64 0)):=(((((HW.out.setCell (p:=⟨w.heap.size+1+1,0,none⟩) (by first | assumption | omega | (dsimp only;omega) | (have:=HW.out.size;omega) | (simp;done) | (simp;omega)) (.int .i64 h)).setCell (p:=⟨w.heap.size+1+1,1,none⟩) (by first | assumption | omega | (dsimp only;omega) | (have:=HW.out.size;omega) | (simp;done) | (simp;omega)) (.slice a1 n1 c1)).setCell (p:=⟨w.heap.size+1+1,2,none⟩) (by first | assumption | omega | (dsimp only;omega) | (have:=HW.out.size;omega) | (simp;done) | (simp;omega)) (.slice la nl lc)).setCell (p:=⟨w.heap.size+1+1,3,none⟩) (by first | assumption | omega | (dsimp only;omega) | (have:=HW.out.size;omega) | (simp;done) | (simp;omega)) (.slice a2 n2 c2)).setCell (p:=⟨w.heap.size+1+1,4,none⟩) (by first | assumption | omega | (dsimp only;omega) | (have:=HW.out.size;omega) | (simp;done) | (simp;omega)) (.int .i64 0))
       clear lB3 cB3 fB3 lB4 cB4 fB4 lB6 cB6 fB6 lBF cBF fBF
       clear B3 B4 B6 BF HO6 HW
       generalize (((((wr.setCell ⟨w.heap.size+1+1,0,none⟩ (.int .i64 h)).setCell ⟨w.heap.size+1+1,1,none⟩ (.slice a1 n1 c1)).setCell ⟨w.heap.size+1+1,2,none⟩ (.slice la nl lc)).setCell ⟨w.heap.size+1+1,3,none⟩ (.slice a2 n2 c2)).setCell ⟨w.heap.size+1+1,4,none⟩ (.int .i64 0))=wz at *
       have B3:=h! B3_
       clear B3_
       have B4:=h! B4_
       clear B4_
       have B6:=h! B6_
       clear B6_
       have BF:=h! BF_
       clear BF_
       have HO6:=h! HO6_
       clear HO6_
       have HW:=h! HW_
       clear HW_
       obtain ⟨lB3,cB3,fB3⟩:=B3.out
       obtain ⟨lB4,cB4,fB4⟩:=B4.out
       obtain ⟨lB6,cB6,fB6⟩:=B6.out
       obtain ⟨lBF,cBF,fBF⟩:=BF.out
       refine bodyPost_ret (v:=.agg #[.int .i64 h,.slice a1 n1 c1,.slice la nl lc,.slice a2 n2 c2,.int .i64 0]) (by simp [results,Tryz.results72,go_sem,cB6]) rfl ⟨a1,a2,c1,c2,S1,S2, ?_, ?_, ?_,fun k hk => ?_,fun k hk => ?_,HW.out⟩
       ·rw [<-HE1.out, <-HE2.out, <-HN1.out, <-HN2.out]
       ·rw [<-HE1.out, <-HN1.out];exact HO1.out.off HO6.out (fun k hk e=>by have h9:k=w.heap.size+1+1:=e;have:=HS1.out k hk;omega)
       ·rw [<-HE2.out, <-HN2.out];exact HO2.out.off HO6.out (fun k hk e=>by have h9:k=w.heap.size+1+1:=e;have:=HS2.out k hk;omega)
       ·have:=HS1.out k hk;omega
       ·have:=HS2.out k hk;omega
end Go.Proofs.YtgmhnepmkaonaaaGreat
