/- Part 43. -/
import Derived.Test.YtgmhnepmkaonaaaGreatQA29
import Derived.Test.YtgmhnepmkaonaaaGreatQA31
import Derived.Test.YtgmhnepmkaonaaaGreatQA42
namespace Go.Proofs.YtgmhnepmkaonaaaGreat
set_option linter.unusedSimpArgs false
set_option linter.unusedVariables false
open Go.RowKit
structure NestV (f:FuncD) (W:World) (bn bs bt bg lg lcap:Nat) (A1 A2 lsv:Value) (ap ab:Option Addr) (np cp cb:Nat) (ar ce:Int) (pv ov lv:Value):Prop where
 n:Box W bn #[.pointer (some ⟨bs,0,none⟩),lsv]
 s:Box W bs #[.pointer (some ⟨bt,0,none⟩),A1,A2]
 t:Box W bt #[.pointer (some ⟨bg,0,none⟩),.slice (some ⟨lg,0,none⟩) f.blocks.length lcap]
 g:Box W bg #[.slice ap np cp,.int .i64 ar,.int .i64 ce,.slice ab f.blocks.length cb,pv,ov,lv]
 p:Lists W pv (predsF f)
 b:SliceOf BlockR 6 W (.slice ab f.blocks.length cb) f.blocks
theorem NestV.later {f:FuncD} {W W' : World} {bn bs bt bg lg lcap:Nat} {A1 A2 lsv:Value} {ap ab:Option Addr} {np cp cb:Nat} {ar ce:Int} {pv ov lv:Value} (h:NestV f W bn bs bt bg lg lcap A1 A2 lsv ap ab np cp cb ar ce pv ov lv) (hb:Below W.heap.size W W'):NestV f W' bn bs bt bg lg lcap A1 A2 lsv ap ab np cp cb ar ce pv ov lv :=
 ⟨h.n.later hb,h.s.later hb,h.t.later hb,h.g.later hb,h.p.below hb,h.b.below BlockR.lasting hb⟩
def LoopR (f:FuncD) (h:Nat) (lat:Value) (w:World) (e:Ending) (w' : World):Prop :=
 ∃ (a1 a2:Option Addr) (c1 c2:Nat) (S1 S2:Foot),e = .returned (.agg #[.int .i64 h,.slice a1 (bodyN f h).length c1,lat,.slice a2 (exitN f h).length c2,.int .i64 0]) /\
  OInts w' S1 (.slice a1 (bodyN f h).length c1) (natI (bodyN f h))/\OInts w' S2 (.slice a2 (exitN f h).length c2) (natI (exitN f h))/\Fresh w.heap.size S1/\Fresh w.heap.size S2/\Below w.heap.size w w'
def WorkS (f:FuncD) (h:Nat) (w4:World) (fB bp g:Nat) (s9 s10:Value) (wr:World):Prop :=
 ∃ (S:List Bool) (ps:List Nat) (P:Foot),Pile wr bp P (natI ps)/\(∀ k,P k -> w4.heap.size <= k)/\Box wr fB (flagsA S)/\Off (fun k=>k=fB \/ k=bp) w4 wr /\
  ((∃ b:Nat,s9 = .int .i64 b/\s10 = .bool true/\WorkI f h S (ps ++ [b])/\workM f S (ps ++ [b]) <= g/\workM f S (ps ++ [b]) <= 300000) \/ (s9 = .int .i64 0/\s10 = .bool false/\ps=[]/\WorkI f h S []))
theorem natI_snoc {qs:List Nat} {ys:List Int} {y:Int} (h:natI qs=ys ++ [y]):∃ (ps:List Nat) (b:Nat),qs=ps ++ [b]/\ys=natI ps/\y=b:=by
 have hl:qs ≠ []:=fun e=>by rw [e] at h;simp [natI] at h
 obtain ⟨ps,b,rfl⟩ : ∃ ps b,qs=ps ++ [b]:=⟨qs.dropLast,qs.getLast hl,(List.dropLast_concat_getLast hl).symm⟩
 unfold natI at h ⊢
 rw [List.map_append] at h
 have h1:=List.append_inj' h (by simp)
 exact ⟨ps,b,rfl,h1.1.symm,by simpa using h1.2.symm⟩
theorem WorkS.of_take {f:FuncD} {h:Nat} {w4 w w' : World} {fB bp g:Nat} {S:List Bool} {qs:List Nat} {P:Foot} {e:Ending} (hP:∀ k,P k -> w4.heap.size <= k) (hB:Box w fB (flagsA S)) (ho:Off (fun k=>k=fB \/ k=bp) w4 w) (hw:WorkI f h S qs) (hm:workM f S qs <= g) (hm2:workM f S qs <= 300000)
  (hne:fB ≠ bp) (hp:Pile w bp P (natI qs)) (ht:TakeR bp P (natI qs) w e w'):∃ x more,e = .returned (.tuple #[x,more])/\WorkS f h w4 fB bp g x more w':=by
 rcases ht with ⟨h1,rfl,hb⟩ | ⟨ys,y,h1,rfl,hpl,hof⟩
 ·have hq:qs=[]:=by
   cases qs with
   | nil=>rfl
   | cons a b=>simp [natI] at h1
  subst hq
  exact ⟨_,_,rfl,S,[],P,hp.off (Off.of_below hb Foot.none) (fun h=>h) (fun _ _ h=>h),hP,hB.later hb,ho.trans (Off.of_below hb _),.inr ⟨rfl,rfl,rfl,hw⟩⟩
 ·obtain ⟨ps,b,rfl,rfl,rfl⟩:=natI_snoc h1
  exact ⟨_,_,rfl,S,ps,P,hpl,hP,hB.off hof (fun e=>hne e),ho.trans (hof.mono fun k _ hk=>.inr hk),.inl ⟨b,rfl,rfl,hw,hm,hm2⟩⟩
theorem toB_less {f:FuncD} (hf:formB f=true) {b t:Nat} (h:t ∈ toB f b):t < f.blocks.length:=by
 obtain ⟨x,hx⟩ : ∃ x,f.blocks[b]? = some x:=⟨_,List.getElem?_eq_getElem (toB_lt h)⟩
 rw [toB_at hx,List.mem_map] at h
 obtain ⟨z,hz,rfl⟩:=h
 have:=formB_to hf hx z hz
 omega
theorem exit_len {f:FuncD} {h:Nat} {met E:List Nat} (k:ExitI f h met E) (hm:∀ t ∈ met,t < f.blocks.length):E.length <= f.blocks.length:=by
 have:=nodup_within (b:=List.range f.blocks.length) (k.rise.imp (fun h=>Nat.ne_of_lt h)) fun x hx=>List.mem_range.2 (hm x ((k.mem x).1 hx).1)
 rwa [List.length_range] at this
theorem alloc_at (w:World) (A:Array Value) (T:TypeId):(w.alloc (.cells A T)).heap[w.heap.size]? = some (.cells A T (0,0)):=by
 show (w.heap.push _)[w.heap.size]? = _
 rw [Array.getElem?_push_size]
set_option maxHeartbeats 12800000 in
set_option maxRecDepth 100000 in
theorem nestLoop {f:FuncD} {w:World} {bn bs bt bg lg lcap h:Nat} {A1 A2 lsv lat:Value} {ap ab:Option Addr} {np cp cb:Nat} {ar ce:Int} {pv ov lv:Value} (hN:NestV f w bn bs bt bg lg lcap A1 A2 lsv ap ab np cp cb ar ce pv ov lv) (hf:formB f=true) (hh:h < f.blocks.length) (hL:Ints w lat (natI (latN f h))) :
  Calls Tryz.prog 111 #[.pointer (some ⟨bn,0,none⟩),.int .i64 h,lat] w (LoopR f h lat w):=by
 obtain ⟨hn1,hn2⟩:=formB_nb hf
 have HF:=hd hf
 have HNV:=hd hN
 have HLT:=hd hL
 have HHH:=hd hh
 obtain ⟨la,lc,rfl⟩:=hL.form
 obtain ⟨nl,hnl⟩ : ∃ nl,nl=(natI (latN f h)).length:=⟨_,rfl⟩
 rw [<-hnl] at HLT ⊢
 clear hnl
 obtain ⟨vs,pa,pc,pb,po,rfl, -, -, -,hpa,hpx,hpi⟩:=hN.p.parts
 obtain ⟨ab',cb',bb,bo,hbe, -, -, -,hba,hbx⟩:=blocks_parts hN.b
 cases hbe
 have hpl:(predsF f).length=f.blocks.length:=predI_len _ _ _
 rw [hpl] at hpa hpx hpi HNV
 obtain ⟨rfl,hpbl⟩:=hpa (by omega)
 obtain ⟨rfl,hbbl⟩:=hba (by omega)
 obtain ⟨nb,hnb⟩ : ∃ nb,nb=f.blocks.length:=⟨_,rfl⟩
 have HNB:=hd hnb
 rw [<-hnb] at hn1 hn2 hh hpx hpi
 have HPX:Hid (∀ j,j < nb -> w.cell? ⟨pb,po+j,none⟩=some (vs.getD j undef)/\Ints w (vs.getD j undef) (natI (predN f f.blocks.length 0 j))):=hd (fun j hj=>by
  refine ⟨hpx j hj, ?_⟩
  have h9:=hpi j hj
  have h8:(predsF f).getD j []=natI (predN f f.blocks.length 0 j):=by
   unfold predsF
   rw [List.getD_eq_getElem?_getD,predI_at (by rw [<-hnb];exact hj)];rfl
  rwa [h8] at h9)
 have HBX:=hd hbx
 clear hN hL hf hnb hpl hpa hpx hpi hbx hba
 have hmk:=run_make_row' (P:=Tryz.prog) 126 4 (.bool false) 1 Tryz.underlying126 infoBool rfl .i64 .i64 nb (by omega) (by omega)
 have HW:Hid (Below w.heap.size w w):=hd (Below.refl _ _)
 have BN:=HNV.out.n
 have hb1:=HNV.out.n.lt
 have hb2:=HNV.out.s.lt
 have hb3:=HNV.out.t.lt
 have hb4:=HNV.out.g.lt
 clear BN HW
 go_enter Tryz.func111,Tryz.ntmps111
 go_upto_region 1 with (fail)
 have B6:Hid (Box (w.alloc (.cells #[.int .i64 0,.slice none 0 0,.slice none 0 0,.slice none 0 0,.int .i64 0] 63)) (w.heap.size) #[.int .i64 0,.slice none 0 0,.slice none 0 0,.slice none 0 0,.int .i64 0]):=hd (by simpa using (Box.new w #[.int .i64 0,.slice none 0 0,.slice none 0 0,.slice none 0 0,.int .i64 0] 63))
 have HW:Hid (Below w.heap.size w (w.alloc (.cells #[.int .i64 0,.slice none 0 0,.slice none 0 0,.slice none 0 0,.int .i64 0] 63))):=hd ((Below.refl _ _).alloc (Nat.le_refl _) _)
 generalize (w.alloc (.cells #[.int .i64 0,.slice none 0 0,.slice none 0 0,.slice none 0 0,.int .i64 0] 63))=wv at *
 obtain ⟨lB6,cB6,fB6⟩:=B6.out
 have BN:=hd (HNV.out.n.later HW.out)
 have BS:=hd (HNV.out.s.later HW.out)
 have BT:=hd (HNV.out.t.later HW.out)
 have BG:=hd (HNV.out.g.later HW.out)
 have gwv:w.heap.size < wv.heap.size:=lB6
 clear lB6 cB6 fB6
 rw [<-HNB.out] at BT BG
 obtain ⟨lB6,cB6,fB6⟩:=B6.out
 obtain ⟨lBN,cBN,fBN⟩:=BN.out
 obtain ⟨lBS,cBS,fBS⟩:=BS.out
 obtain ⟨lBT,cBT,fBT⟩:=BT.out
 obtain ⟨lBG,cBG,fBG⟩:=BG.out
 go_upto_region 2 with (fail)
 have nBFB6:wv.heap.size ≠ w.heap.size:=fun e=>by have:=lB6;omega
 have nB6BF:w.heap.size ≠ wv.heap.size:=fun e=>nBFB6 e.symm
 have nBFBN:wv.heap.size ≠ bn:=fun e=>by have:=lBN;omega
 have nBNBF:bn ≠ wv.heap.size:=fun e=>nBFBN e.symm
 have nBFBS:wv.heap.size ≠ bs:=fun e=>by have:=lBS;omega
 have nBSBF:bs ≠ wv.heap.size:=fun e=>nBFBS e.symm
 have nBFBT:wv.heap.size ≠ bt:=fun e=>by have:=lBT;omega
 have nBTBF:bt ≠ wv.heap.size:=fun e=>nBFBT e.symm
 have nBFBG:wv.heap.size ≠ bg:=fun e=>by have:=lBG;omega
 have nBGBF:bg ≠ wv.heap.size:=fun e=>nBFBG e.symm
 have B6_:Box (wv.alloc (.cells (madeCells #[.bool false] nb) 4)) (w.heap.size) #[.int .i64 0,.slice none 0 0,.slice none 0 0,.slice none 0 0,.int .i64 0]:=by simpa using (B6.out.alloc _)
 have BN_:Box (wv.alloc (.cells (madeCells #[.bool false] nb) 4)) (bn) #[.pointer (some ⟨bs,0,none⟩),lsv]:=by simpa using (BN.out.alloc _)
 have BS_:Box (wv.alloc (.cells (madeCells #[.bool false] nb) 4)) (bs) #[.pointer (some ⟨bt,0,none⟩),A1,A2]:=by simpa using (BS.out.alloc _)
 have BT_:Box (wv.alloc (.cells (madeCells #[.bool false] nb) 4)) (bt) #[.pointer (some ⟨bg,0,none⟩),.slice (some ⟨lg,0,none⟩) nb lcap]:=by simpa using (BT.out.alloc _)
 have BG_:Box (wv.alloc (.cells (madeCells #[.bool false] nb) 4)) (bg) #[.slice ap np cp,.int .i64 ar,.int .i64 ce,.slice (some ⟨bb,bo,none⟩) nb cb,.slice (some ⟨pb,po,none⟩) nb pc,ov,lv]:=by simpa using (BG.out.alloc _)
 have BF_:Box (wv.alloc (.cells (madeCells #[.bool false] nb) 4)) (wv.heap.size) (madeCells #[.bool false] nb):=by first | exact (Box.new wv (madeCells #[.bool false] nb) 4) | simpa using (Box.new wv (madeCells #[.bool false] nb) 4)
 have HW_:Below w.heap.size w (wv.alloc (.cells (madeCells #[.bool false] nb) 4)):=(HW.out.alloc (by first | exact Nat.le_refl _ | exact HW.out.size | (simp only [World.size_alloc,World.size_setCell];have:=HW.out.size;omega)) _)
 clear lB6 cB6 fB6 lBN cBN fBN lBS cBS fBS lBT cBT fBT lBG cBG fBG
 clear B6 BN BS BT BG HW
 generalize (wv.alloc (.cells (madeCells #[.bool false] nb) 4))=w2 at *
 have B6:=hd B6_
 clear B6_
 have BN:=hd BN_
 clear BN_
 have BS:=hd BS_
 clear BS_
 have BT:=hd BT_
 clear BT_
 have BG:=hd BG_
 clear BG_
 have BF:=hd BF_
 clear BF_
 have HW:=hd HW_
 clear HW_
 obtain ⟨lB6,cB6,fB6⟩:=B6.out
 obtain ⟨lBN,cBN,fBN⟩:=BN.out
 obtain ⟨lBS,cBS,fBS⟩:=BS.out
 obtain ⟨lBT,cBT,fBT⟩:=BT.out
 obtain ⟨lBG,cBG,fBG⟩:=BG.out
 obtain ⟨lBF,cBF,fBF⟩:=BF.out
 rw [flags_made] at BF cBF
 clear hmk
 have hfl:(flagsA (List.replicate nb false))[h]? = some (.bool false):=flagsA_at (by simp [hh])
 go_upto_region 3 with (fail)
 have B6_:Box (w2.setCell ⟨wv.heap.size,h,none⟩ (.bool true)) (w.heap.size) #[.int .i64 0,.slice none 0 0,.slice none 0 0,.slice none 0 0,.int .i64 0]:=by simpa using (B6.out.other (p:=⟨wv.heap.size,h,none⟩) (.bool true) (by first | assumption | (simp;done) | omega | (dsimp only;omega)))
 have BN_:Box (w2.setCell ⟨wv.heap.size,h,none⟩ (.bool true)) (bn) #[.pointer (some ⟨bs,0,none⟩),lsv]:=by simpa using (BN.out.other (p:=⟨wv.heap.size,h,none⟩) (.bool true) (by first | assumption | (simp;done) | omega | (dsimp only;omega)))
 have BS_:Box (w2.setCell ⟨wv.heap.size,h,none⟩ (.bool true)) (bs) #[.pointer (some ⟨bt,0,none⟩),A1,A2]:=by simpa using (BS.out.other (p:=⟨wv.heap.size,h,none⟩) (.bool true) (by first | assumption | (simp;done) | omega | (dsimp only;omega)))
 have BT_:Box (w2.setCell ⟨wv.heap.size,h,none⟩ (.bool true)) (bt) #[.pointer (some ⟨bg,0,none⟩),.slice (some ⟨lg,0,none⟩) nb lcap]:=by simpa using (BT.out.other (p:=⟨wv.heap.size,h,none⟩) (.bool true) (by first | assumption | (simp;done) | omega | (dsimp only;omega)))
 have BG_:Box (w2.setCell ⟨wv.heap.size,h,none⟩ (.bool true)) (bg) #[.slice ap np cp,.int .i64 ar,.int .i64 ce,.slice (some ⟨bb,bo,none⟩) nb cb,.slice (some ⟨pb,po,none⟩) nb pc,ov,lv]:=by simpa using (BG.out.other (p:=⟨wv.heap.size,h,none⟩) (.bool true) (by first | assumption | (simp;done) | omega | (dsimp only;omega)))
 have BF_:Box (w2.setCell ⟨wv.heap.size,h,none⟩ (.bool true)) (wv.heap.size) (((flagsA (List.replicate nb false))).setIfInBounds h (.bool true)):=by first | exact (BF.out.set h (.bool true)) | simpa using (BF.out.set h (.bool true))
 have HW_:Below w.heap.size w (w2.setCell ⟨wv.heap.size,h,none⟩ (.bool true)):=(HW.out.setCell (p:=⟨wv.heap.size,h,none⟩) (by first | assumption | omega | (dsimp only;omega) | (have:=HW.out.size;omega) | (simp;done) | (simp;omega)) (.bool true))
 clear lB6 cB6 fB6 lBN cBN fBN lBS cBS fBS lBT cBT fBT lBG cBG fBG lBF cBF fBF
 clear B6 BN BS BT BG BF HW
 generalize (w2.setCell ⟨wv.heap.size,h,none⟩ (.bool true))=w3 at *
 have B6:=hd B6_
 clear B6_
 have BN:=hd BN_
 clear BN_
 have BS:=hd BS_
 clear BS_
 have BT:=hd BT_
 clear BT_
 have BG:=hd BG_
 clear BG_
 have BF:=hd BF_
 clear BF_
 have HW:=hd HW_
 clear HW_
 obtain ⟨lB6,cB6,fB6⟩:=B6.out
 obtain ⟨lBN,cBN,fBN⟩:=BN.out
 obtain ⟨lBS,cBS,fBS⟩:=BS.out
 obtain ⟨lBT,cBT,fBT⟩:=BT.out
 obtain ⟨lBG,cBG,fBG⟩:=BG.out
 obtain ⟨lBF,cBF,fBF⟩:=BF.out
 clear hfl
 rw [flagsA_set] at BF cBF
 have gw3:wv.heap.size < w3.heap.size:=lBF
 go_upto_region 4 with (fail)
 have nBPB6:w3.heap.size ≠ w.heap.size:=fun e=>by have:=lB6;omega
 have nB6BP:w.heap.size ≠ w3.heap.size:=fun e=>nBPB6 e.symm
 have nBPBN:w3.heap.size ≠ bn:=fun e=>by have:=lBN;omega
 have nBNBP:bn ≠ w3.heap.size:=fun e=>nBPBN e.symm
 have nBPBS:w3.heap.size ≠ bs:=fun e=>by have:=lBS;omega
 have nBSBP:bs ≠ w3.heap.size:=fun e=>nBPBS e.symm
 have nBPBT:w3.heap.size ≠ bt:=fun e=>by have:=lBT;omega
 have nBTBP:bt ≠ w3.heap.size:=fun e=>nBPBT e.symm
 have nBPBG:w3.heap.size ≠ bg:=fun e=>by have:=lBG;omega
 have nBGBP:bg ≠ w3.heap.size:=fun e=>nBPBG e.symm
 have nBPBF:w3.heap.size ≠ wv.heap.size:=fun e=>by have:=lBF;omega
 have nBFBP:wv.heap.size ≠ w3.heap.size:=fun e=>nBPBF e.symm
 have B6_:Box (w3.alloc (.cells #[.slice none 0 0] 208)) (w.heap.size) #[.int .i64 0,.slice none 0 0,.slice none 0 0,.slice none 0 0,.int .i64 0]:=by simpa using (B6.out.alloc _)
 have BN_:Box (w3.alloc (.cells #[.slice none 0 0] 208)) (bn) #[.pointer (some ⟨bs,0,none⟩),lsv]:=by simpa using (BN.out.alloc _)
 have BS_:Box (w3.alloc (.cells #[.slice none 0 0] 208)) (bs) #[.pointer (some ⟨bt,0,none⟩),A1,A2]:=by simpa using (BS.out.alloc _)
 have BT_:Box (w3.alloc (.cells #[.slice none 0 0] 208)) (bt) #[.pointer (some ⟨bg,0,none⟩),.slice (some ⟨lg,0,none⟩) nb lcap]:=by simpa using (BT.out.alloc _)
 have BG_:Box (w3.alloc (.cells #[.slice none 0 0] 208)) (bg) #[.slice ap np cp,.int .i64 ar,.int .i64 ce,.slice (some ⟨bb,bo,none⟩) nb cb,.slice (some ⟨pb,po,none⟩) nb pc,ov,lv]:=by simpa using (BG.out.alloc _)
 have BF_:Box (w3.alloc (.cells #[.slice none 0 0] 208)) (wv.heap.size) (flagsA ((List.replicate nb false).set h true)):=by first | exact (BF.out.alloc _) | simpa using (BF.out.alloc _)
 have BP_:Box (w3.alloc (.cells #[.slice none 0 0] 208)) (w3.heap.size) #[.slice none 0 0]:=by simpa using (Box.new w3 #[.slice none 0 0] 208)
 have HW_:Below w.heap.size w (w3.alloc (.cells #[.slice none 0 0] 208)):=(HW.out.alloc (by first | exact Nat.le_refl _ | exact HW.out.size | (simp only [World.size_alloc,World.size_setCell];have:=HW.out.size;omega)) _)
 clear lB6 cB6 fB6 lBN cBN fBN lBS cBS fBS lBT cBT fBT lBG cBG fBG lBF cBF fBF
 clear B6 BN BS BT BG BF HW
 generalize (w3.alloc (.cells #[.slice none 0 0] 208))=w4 at *
 have B6:=hd B6_
 clear B6_
 have BN:=hd BN_
 clear BN_
 have BS:=hd BS_
 clear BS_
 have BT:=hd BT_
 clear BT_
 have BG:=hd BG_
 clear BG_
 have BF:=hd BF_
 clear BF_
 have BP:=hd BP_
 clear BP_
 have HW:=hd HW_
 clear HW_
 obtain ⟨lB6,cB6,fB6⟩:=B6.out
 obtain ⟨lBN,cBN,fBN⟩:=BN.out
 obtain ⟨lBS,cBS,fBS⟩:=BS.out
 obtain ⟨lBT,cBT,fBT⟩:=BT.out
 obtain ⟨lBG,cBG,fBG⟩:=BG.out
 obtain ⟨lBF,cBF,fBF⟩:=BF.out
 obtain ⟨lBP,cBP,fBP⟩:=BP.out
 have gw4:w3.heap.size < w4.heap.size:=lBP
 go_wp2_with fail
 have BF4:=BF
 have HW4:=HW
 have B64:=B6
 clear lB6 cB6 fB6 lBN cBN fBN lBS cBS fBS lBT cBT fBT lBG cBG fBG lBF cBF fBF lBP cBP fBP
 refine (pilePut (xs:=[]) (S:=Foot.none) ⟨⟨none,0,BP.out,OInts.nil none⟩,fun h=>h⟩ (HLT.out.below HW.out) (by rw [natI_len];have:=latN_len f h;have:=HNB.out;simp;omega)).mono ?_
 rintro e w5 ⟨S5,rfl,hpl,hs5,ho5⟩
 have HO5:=hd ho5
 have HS5:Hid (∀ k,S5 k -> w4.heap.size <= k):=hd (fun k hk=>(hs5 k hk).elim (fun h=>h.elim) id)
 have HP5:Hid (Pile w5 w3.heap.size S5 (natI (latN f h))):=hd hpl
 clear ho5 hs5 hpl HW BN BS BT BG BP B6 BF
 go_wp2_with fail
 refine (pileTake HP5.out).mono ?_
 rintro e w6 ht
 obtain ⟨x9,x10,rfl,hws⟩:=WorkS.of_take (g:=300000) (w4:=w4) (fB:=wv.heap.size) HS5.out (BF4.out.off HO5.out (fun hk=>by rcases hk with hk | hk;omega;exact hk)) (HO5.out.mono fun k _ hk=>.inr (by rcases hk with h | h;exact h;exact h.elim)) (by rw [HNB.out];exact WorkI.start HHH.out) (by rw [HNB.out];exact workM_start (by have:=HNB.out;omega)) (by rw [HNB.out];exact workM_start (by have:=HNB.out;omega)) (by omega) HP5.out ht
 have HWS:=hd hws
 clear hws ht HP5 HS5 HO5
 go_wp2_with fail
 go_loopg [9,10] 300000 (fun g s9 s10 wr=>WorkS f h w4 wv.heap.size w3.heap.size g s9 s10 wr)
 case atStart=>exact HWS.out
 case round =>
  obtain ⟨S,ps,P,hp,hP,hB,ho,hc⟩:=hrel
  have HP:=hd hp
  have HPB:=hd hP
  have HOFF:=hd ho
  have BF:=hd hB
  clear hp hP hB ho HWS
  have HW:Hid (Below w.heap.size w wr):=hd (HW4.out.trans (HOFF.out.below HW4.out.size (fun k _ hk=>by rcases hk with rfl | rfl <;> omega)))
  have B6:=hd (B64.out.off HOFF.out (fun hk=>by rcases hk with hk | hk <;> omega))
  have BN:=hd (HNV.out.n.later HW.out)
  have BS:=hd (HNV.out.s.later HW.out)
  have BT:=hd (HNV.out.t.later HW.out)
  have BG:=hd (HNV.out.g.later HW.out)
  rw [<-HNB.out] at BT BG
  obtain ⟨lB6,cB6,fB6⟩:=B6.out
  obtain ⟨lBN,cBN,fBN⟩:=BN.out
  obtain ⟨lBS,cBS,fBS⟩:=BS.out
  obtain ⟨lBT,cBT,fBT⟩:=BT.out
  obtain ⟨lBG,cBG,fBG⟩:=BG.out
  obtain ⟨lBF,cBF,fBF⟩:=BF.out
  rcases hc with ⟨b,rfl,rfl,hwi,hm,hm2⟩ | ⟨rfl,rfl,rfl,hwi⟩
  ·have hbl:b < nb:=by rw [HNB.out];exact (hwi.psound b (by simp)).lt HHH.out
   obtain ⟨c,hsb⟩ : ∃ c,S[b]? = some c:=⟨_,List.getElem?_eq_getElem (by rw [hwi.len, <-HNB.out];exact hbl)⟩
   have HWI:=hd hwi
   have HM:=hd hm
   have HM2:=hd hm2
   have HSB:=hd hsb
   have hfl:=flagsA_at hsb
   clear hwi hm hm2 hsb
   cases c
   ·go_upto_region 10 with (fail)
    have HP7:Hid (Pile (wr.setCell ⟨wv.heap.size,b,none⟩ (.bool true)) w3.heap.size P (natI ps)):=hd (HP.out.off (Off.set wr ⟨wv.heap.size,b,none⟩ (.bool true)) (fun e=>by have h9:w3.heap.size=wv.heap.size:=e;omega) (fun k hk e=>by have h9:k=wv.heap.size:=e;have:=HPB.out k hk;omega))
    have HO7:Hid (Off (fun k=>k=wv.heap.size \/ k=w3.heap.size) w4 (wr.setCell ⟨wv.heap.size,b,none⟩ (.bool true))):=hd (HOFF.out.trans ((Off.set wr ⟨wv.heap.size,b,none⟩ (.bool true)).mono fun k _ hk=>.inl hk))
    clear HP HOFF
    have B6_:Box (wr.setCell ⟨wv.heap.size,b,none⟩ (.bool true)) (w.heap.size) #[.int .i64 0,.slice none 0 0,.slice none 0 0,.slice none 0 0,.int .i64 0]:=by simpa using (B6.out.other (p:=⟨wv.heap.size,b,none⟩) (.bool true) (by first | assumption | (simp;done) | omega | (dsimp only;omega)))
    have BN_:Box (wr.setCell ⟨wv.heap.size,b,none⟩ (.bool true)) (bn) #[.pointer (some ⟨bs,0,none⟩),lsv]:=by simpa using (BN.out.other (p:=⟨wv.heap.size,b,none⟩) (.bool true) (by first | assumption | (simp;done) | omega | (dsimp only;omega)))
    have BS_:Box (wr.setCell ⟨wv.heap.size,b,none⟩ (.bool true)) (bs) #[.pointer (some ⟨bt,0,none⟩),A1,A2]:=by simpa using (BS.out.other (p:=⟨wv.heap.size,b,none⟩) (.bool true) (by first | assumption | (simp;done) | omega | (dsimp only;omega)))
    have BT_:Box (wr.setCell ⟨wv.heap.size,b,none⟩ (.bool true)) (bt) #[.pointer (some ⟨bg,0,none⟩),.slice (some ⟨lg,0,none⟩) nb lcap]:=by simpa using (BT.out.other (p:=⟨wv.heap.size,b,none⟩) (.bool true) (by first | assumption | (simp;done) | omega | (dsimp only;omega)))
    have BG_:Box (wr.setCell ⟨wv.heap.size,b,none⟩ (.bool true)) (bg) #[.slice ap np cp,.int .i64 ar,.int .i64 ce,.slice (some ⟨bb,bo,none⟩) nb cb,.slice (some ⟨pb,po,none⟩) nb pc,ov,lv]:=by simpa using (BG.out.other (p:=⟨wv.heap.size,b,none⟩) (.bool true) (by first | assumption | (simp;done) | omega | (dsimp only;omega)))
    have BF_:Box (wr.setCell ⟨wv.heap.size,b,none⟩ (.bool true)) (wv.heap.size) (((flagsA S)).setIfInBounds b (.bool true)):=by first | exact (BF.out.set b (.bool true)) | simpa using (BF.out.set b (.bool true))
    have HW_:Below w.heap.size w (wr.setCell ⟨wv.heap.size,b,none⟩ (.bool true)):=(HW.out.setCell (p:=⟨wv.heap.size,b,none⟩) (by first | assumption | omega | (dsimp only;omega) | (have:=HW.out.size;omega) | (simp;done) | (simp;omega)) (.bool true))
    clear lB6 cB6 fB6 lBN cBN fBN lBS cBS fBS lBT cBT fBT lBG cBG fBG lBF cBF fBF
    clear B6 BN BS BT BG BF HW
    generalize (wr.setCell ⟨wv.heap.size,b,none⟩ (.bool true))=w7 at *
    have B6:=hd B6_
    clear B6_
    have BN:=hd BN_
    clear BN_
    have BS:=hd BS_
    clear BS_
    have BT:=hd BT_
    clear BT_
    have BG:=hd BG_
    clear BG_
    have BF:=hd BF_
    clear BF_
    have HW:=hd HW_
    clear HW_
    obtain ⟨lB6,cB6,fB6⟩:=B6.out
    obtain ⟨lBN,cBN,fBN⟩:=BN.out
    obtain ⟨lBS,cBS,fBS⟩:=BS.out
    obtain ⟨lBT,cBT,fBT⟩:=BT.out
    obtain ⟨lBG,cBG,fBG⟩:=BG.out
    obtain ⟨lBF,cBF,fBF⟩:=BF.out
    rw [flagsA_set] at BF cBF
    clear hfl
    obtain ⟨hpc,hpi⟩:=HPX.out b hbl
    obtain ⟨ra,rc,hre⟩:=hpi.form
    rw [hre] at hpc hpi
    have hpll:(natI (predN f f.blocks.length 0 b)).length <= 512:=by rw [natI_len];have:=predN_len f b;have:=HNB.out;omega
    obtain ⟨lp,hlp⟩ : ∃ lp,lp=(natI (predN f f.blocks.length 0 b)).length:=⟨_,rfl⟩
    rw [<-hlp] at hpc hpi
    have hpk:=(HW.out.cell (p:=⟨pb,po+b,none⟩) hpbl).trans hpc
    have HPI:=hd hpi
    clear hpc hre hlp hpi
    go_wp2_with fail
    clear hpk
    clear lB6 cB6 fB6 lBN cBN fBN lBS cBS fBS lBT cBT fBT lBG cBG fBG lBF cBF fBF
    have hsz:ps.length <= 300000:=by have:=HM2.out;unfold workM at this;rw [List.length_append] at this;omega
    refine (pilePut HP7.out (HPI.out.below HW.out) (by rw [natI_len];omega)).mono ?_
    rintro e w8 ⟨S8,rfl,hpl,hs8,ho8⟩
    have hns:natI ps ++ natI (predN f f.blocks.length 0 b)=natI (ps ++ predN f f.blocks.length 0 b):=by unfold natI;rw [List.map_append]
    rw [hns] at hpl
    have HP8:=hd hpl
    have HPB8:Hid (∀ k,S8 k -> w4.heap.size <= k):=hd (fun k hk=>(hs8 k hk).elim (HPB.out k) (fun h=>Nat.le_trans HO7.out.size h))
    have HO8:Hid (Off (fun k=>k=wv.heap.size \/ k=w3.heap.size) w4 w8):=hd (Off.grow HO7.out ho8 (fun q hq=>by rcases hq with hq | hq;exact .inl (.inr hq);exact .inr (HPB.out q hq)))
    have BF8:=hd (BF.out.off ho8 (fun hq=>by rcases hq with hq | hq;omega;have:=HPB.out _ hq;omega))
    clear hpl hs8 ho8 hns BF HO7 HP7 HPB HW B6 BN BS BT BG hpll hsz
    go_wp2_with fail
    refine (pileTake HP8.out).mono ?_
    rintro e w9 ht
    have HMN:=hd (workM_new (f:=f) (ps:=ps) HSB.out)
    obtain ⟨x9,x10,rfl,hws⟩:=WorkS.of_take (g:=workM f (S.set b true) (ps ++ predN f f.blocks.length 0 b)) (w4:=w4) (fB:=wv.heap.size) HPB8.out BF8.out HO8.out (HWI.out.new HSB.out) (Nat.le_refl _) (by have:=HM2.out;have:=HMN.out;omega) (by omega) HP8.out ht
    have HWS:=hd hws
    clear hws ht
    go_wp2
    go_roundg (workM f (S.set b true) (ps ++ predN f f.blocks.length 0 b))
    case measure=>have:=HM.out;have:=HMN.out;omega
    case rel=>exact HWS.out
   ·go_wp2_with fail
    clear hfl
    clear lB6 cB6 fB6 lBN cBN fBN lBS cBS fBS lBT cBT fBT lBG cBG fBG lBF cBF fBF
    refine (pileTake HP.out).mono ?_
    rintro e w7 ht
    obtain ⟨x9,x10,rfl,hws⟩:=WorkS.of_take (g:=workM f S ps) (w4:=w4) (fB:=wv.heap.size) HPB.out BF.out HOFF.out (HWI.out.old HSB.out) (Nat.le_refl _) (by have:=HM2.out;rw [<-workM_old] at this;omega) (by omega) HP.out ht
    have HWS:=hd hws
    clear hws ht
    go_wp2
    go_roundg (workM f S ps)
    case measure=>have:=HM.out;rw [<-workM_old] at this;omega
    case rel=>exact HWS.out
  ·have HDN:Hid (∀ b:Nat,S[b]? = some true ↔ InL f h b):=hd (hwi.done HHH.out)
   have HBY:Hid ((List.range nb).filter (fun b=>S.getD b false)=bodyN f h):=hd (by rw [HNB.out];exact hwi.body HHH.out)
   have HSL:Hid (S.length=nb):=hd (by rw [HNB.out];exact hwi.len)
   have HZB:Hid (latN f h=latN f h):=hd rfl
   clear hwi HP HPB HZB
   go_upto_region 12 with (fail)
   have HO10:Hid (Off (fun k=>k=wv.heap.size \/ k=w3.heap.size) w4 (wr.alloc (.cells #[.int .i64 h,.slice none 0 0,.slice la nl lc,.slice none 0 0,.int .i64 0] 63))):=hd (HOFF.out.trans (Off.alloc _ _ _))
   have gwr:w4.heap.size <= wr.heap.size:=HOFF.out.size
   have nBLB6:wr.heap.size ≠ w.heap.size:=fun e=>by have:=lB6;omega
   have nB6BL:w.heap.size ≠ wr.heap.size:=fun e=>nBLB6 e.symm
   have nBLBN:wr.heap.size ≠ bn:=fun e=>by have:=lBN;omega
   have nBNBL:bn ≠ wr.heap.size:=fun e=>nBLBN e.symm
   have nBLBS:wr.heap.size ≠ bs:=fun e=>by have:=lBS;omega
   have nBSBL:bs ≠ wr.heap.size:=fun e=>nBLBS e.symm
   have nBLBT:wr.heap.size ≠ bt:=fun e=>by have:=lBT;omega
   have nBTBL:bt ≠ wr.heap.size:=fun e=>nBLBT e.symm
   have nBLBG:wr.heap.size ≠ bg:=fun e=>by have:=lBG;omega
   have nBGBL:bg ≠ wr.heap.size:=fun e=>nBLBG e.symm
   have nBLBF:wr.heap.size ≠ wv.heap.size:=fun e=>by have:=lBF;omega
   have nBFBL:wv.heap.size ≠ wr.heap.size:=fun e=>nBLBF e.symm
   have B6_:Box (wr.alloc (.cells #[.int .i64 h,.slice none 0 0,.slice la nl lc,.slice none 0 0,.int .i64 0] 63)) (w.heap.size) #[.int .i64 0,.slice none 0 0,.slice none 0 0,.slice none 0 0,.int .i64 0]:=by simpa using (B6.out.alloc _)
   have BN_:Box (wr.alloc (.cells #[.int .i64 h,.slice none 0 0,.slice la nl lc,.slice none 0 0,.int .i64 0] 63)) (bn) #[.pointer (some ⟨bs,0,none⟩),lsv]:=by simpa using (BN.out.alloc _)
   have BS_:Box (wr.alloc (.cells #[.int .i64 h,.slice none 0 0,.slice la nl lc,.slice none 0 0,.int .i64 0] 63)) (bs) #[.pointer (some ⟨bt,0,none⟩),A1,A2]:=by simpa using (BS.out.alloc _)
   have BT_:Box (wr.alloc (.cells #[.int .i64 h,.slice none 0 0,.slice la nl lc,.slice none 0 0,.int .i64 0] 63)) (bt) #[.pointer (some ⟨bg,0,none⟩),.slice (some ⟨lg,0,none⟩) nb lcap]:=by simpa using (BT.out.alloc _)
   have BG_:Box (wr.alloc (.cells #[.int .i64 h,.slice none 0 0,.slice la nl lc,.slice none 0 0,.int .i64 0] 63)) (bg) #[.slice ap np cp,.int .i64 ar,.int .i64 ce,.slice (some ⟨bb,bo,none⟩) nb cb,.slice (some ⟨pb,po,none⟩) nb pc,ov,lv]:=by simpa using (BG.out.alloc _)
   have BF_:Box (wr.alloc (.cells #[.int .i64 h,.slice none 0 0,.slice la nl lc,.slice none 0 0,.int .i64 0] 63)) (wv.heap.size) (flagsA S):=by first | exact (BF.out.alloc _) | simpa using (BF.out.alloc _)
   have BL_:Box (wr.alloc (.cells #[.int .i64 h,.slice none 0 0,.slice la nl lc,.slice none 0 0,.int .i64 0] 63)) (wr.heap.size) #[.int .i64 h,.slice none 0 0,.slice la nl lc,.slice none 0 0,.int .i64 0]:=by simpa using (Box.new wr #[.int .i64 h,.slice none 0 0,.slice la nl lc,.slice none 0 0,.int .i64 0] 63)
   have HW_:Below w.heap.size w (wr.alloc (.cells #[.int .i64 h,.slice none 0 0,.slice la nl lc,.slice none 0 0,.int .i64 0] 63)):=(HW.out.alloc (by first | exact Nat.le_refl _ | exact HW.out.size | (simp only [World.size_alloc,World.size_setCell];have:=HW.out.size;omega)) _)
   clear lB6 cB6 fB6 lBN cBN fBN lBS cBS fBS lBT cBT fBT lBG cBG fBG lBF cBF fBF
   clear B6 BN BS BT BG BF HW
   generalize (wr.alloc (.cells #[.int .i64 h,.slice none 0 0,.slice la nl lc,.slice none 0 0,.int .i64 0] 63))=w10 at *
   have B6:=hd B6_
   clear B6_
   have BN:=hd BN_
   clear BN_
   have BS:=hd BS_
   clear BS_
   have BT:=hd BT_
   clear BT_
   have BG:=hd BG_
   clear BG_
   have BF:=hd BF_
   clear BF_
   have BL:=hd BL_
   clear BL_
   have HW:=hd HW_
   clear HW_
   obtain ⟨lB6,cB6,fB6⟩:=B6.out
   obtain ⟨lBN,cBN,fBN⟩:=BN.out
   obtain ⟨lBS,cBS,fBS⟩:=BS.out
   obtain ⟨lBT,cBT,fBT⟩:=BT.out
   obtain ⟨lBG,cBG,fBG⟩:=BG.out
   obtain ⟨lBF,cBF,fBF⟩:=BF.out
   obtain ⟨lBL,cBL,fBL⟩:=BL.out
   obtain ⟨bl,hbl⟩ : ∃ bl,bl=wr.heap.size:=⟨_,rfl⟩
   rw [<-hbl] at BL nBLB6 nB6BL nBLBN nBNBL nBLBS nBSBL nBLBT nBTBL nBLBG nBGBL nBLBF nBFBL gwr
   have gbl:bl < w10.heap.size:=BL.out.lt
   simp only [<-hbl] at *
   clear hbl
   have HWA:=HW
   have B6A:=B6
   have BFA:=BF
   have BLA:=BL
   clear HOFF HO10
   go_wp2_with fail
   clear lB6 cB6 fB6 lBN cBN fBN lBS cBS fBS lBT cBT fBT lBG cBG fBG lBF cBF fBF lBL cBL fBL
   clear HW B6 BN BS BT BG BF BL
   go_loopw [85] (fun i wr => ∃ (j:Nat) (a:Option Addr) (c:Nat) (Sb:Foot),j <= nb/\i = .int .i64 j/\Box wr bl #[.int .i64 h,.slice a ((List.range j).filter (fun b=>S.getD b false)).length c,.slice la nl lc,.slice none 0 0,.int .i64 0]/\OInts wr Sb (.slice a ((List.range j).filter (fun b=>S.getD b false)).length c) (natI ((List.range j).filter (fun b=>S.getD b false)))/\(∀ k,Sb k -> w10.heap.size <= k)/\Off (fun k=>k=bl) w10 wr) (fun i _=>nb - (intOf i).toNat)
   case atStart=>exact ⟨0,none,0,Foot.none,Nat.zero_le _,rfl,BLA.out,OInts.nil none,fun k hk=>hk.elim,Off.refl _ _⟩
   case round =>
    obtain ⟨j,a,c,Sb,hj,rfl,hbx,hob,hsb,ho⟩:=hrel
    obtain ⟨L,hL⟩ : ∃ L,L=(List.range j).filter (fun b=>S.getD b false):=⟨_,rfl⟩
    rw [<-hL] at hbx hob
    obtain ⟨ln,hln⟩ : ∃ ln,ln=L.length:=⟨_,rfl⟩
    rw [<-hln] at hbx hob
    have hle:ln <= 512:=by rw [hln,hL];exact Nat.le_trans (List.length_filter_le _ _) (by rw [List.length_range];omega)
    have HLL:=hd hL
    have HLN:=hd hln
    have HOB:=hd hob
    have HSB:=hd hsb
    have HOF:=hd ho
    have HW:Hid (Below w.heap.size w wr):=hd (HWA.out.trans (ho.below HWA.out.size (fun k _ hk=>by have h9:k=bl:=hk;have:=HW4.out.size;omega)))
    have BF:=hd (BFA.out.off ho (fun hk=>by have h9:wv.heap.size=bl:=hk;omega))
    have B6:=hd (B6A.out.off ho (fun hk=>by have h9:w.heap.size=bl:=hk;omega))
    have BL:=hd hbx
    clear hL hln hbx hob hsb ho
    have BN:=hd (HNV.out.n.later HW.out)
    have BS:=hd (HNV.out.s.later HW.out)
    have BT:=hd (HNV.out.t.later HW.out)
    have BG:=hd (HNV.out.g.later HW.out)
    rw [<-HNB.out] at BT BG
    obtain ⟨lB6,cB6,fB6⟩:=B6.out
    obtain ⟨lBN,cBN,fBN⟩:=BN.out
    obtain ⟨lBS,cBS,fBS⟩:=BS.out
    obtain ⟨lBT,cBT,fBT⟩:=BT.out
    obtain ⟨lBG,cBG,fBG⟩:=BG.out
    obtain ⟨lBF,cBF,fBF⟩:=BF.out
    obtain ⟨lBL,cBL,fBL⟩:=BL.out
    by_cases hlt:j < nb
    ·obtain ⟨d,hsd⟩ : ∃ d,S[j]? = some d:=⟨_,List.getElem?_eq_getElem (by rw [HSL.out];exact hlt)⟩
     have hfl:=flagsA_at hsd
     have HSD:Hid (S.getD j false=d):=hd (by rw [List.getD_eq_getElem?_getD,hsd];rfl)
     clear hsd
     cases d
     ·have HNX:Hid ((List.range (j+1)).filter (fun b=>S.getD b false)=L):=hd (by rw [List.range_succ,List.filter_append, <-HLL.out];simp only [List.filter_cons,HSD.out,List.filter_nil];simp)
      go_wp2
      clear hfl
      clear lB6 cB6 fB6 lBN cBN fBN lBS cBS fBS lBT cBT fBT lBG cBG fBG lBF cBF fBF lBL cBL fBL
      go_roundw
      case rel=>exact ⟨j+1,a,c,Sb,hlt,by go_num,by rw [HNX.out, <-HLN.out];exact BL.out,by rw [HNX.out, <-HLN.out];exact HOB.out,HSB.out,HOF.out⟩
      case measure=>simp [intOf];omega
     ·have HNX:Hid ((List.range (j+1)).filter (fun b=>S.getD b false)=L ++ [j]):=hd (by rw [List.range_succ,List.filter_append, <-HLL.out];simp only [List.filter_cons,HSD.out,List.filter_nil];simp)
      have hnb:¬ Sb bl:=fun h=>by have:=HSB.out bl h;omega
      have hoLn:(natI L).length=ln:=by rw [natI_len,HLN.out]
      have HOLN:=hd hoLn
      clear hoLn
      go_wp2_with (at_builtin;go_loud (refine wpList_iapps (ys:=[(j:Int)]) (m:=1) rfl _ _ rfl HOLN.out rfl rfl rfl (HOB.out.off (Off.alloc Foot.none wr _) (fun _ _ h=>h)) (ints_of_box (Box.new _ _ _) ⟨by omega,by omega⟩) (by omega) ?_);intro a2 c2 w11 G2 hO hG hof;obtain ⟨ly,cy,fy⟩:=(BL.out.alloc (.cells #[.int .i64 j] 3)).off hof hnb)
      clear ly cy fy hfl
      clear lB6 cB6 fB6 lBN cBN fBN lBS cBS fBS lBT cBT fBT lBG cBG fBG lBF cBF fBF lBL cBL fBL
      have HBL2:Hid (Box w11 bl #[.int .i64 h,.slice a ln c,.slice la nl lc,.slice none 0 0,.int .i64 0]):=hd ((BL.out.alloc (.cells #[.int .i64 j] 3)).off hof hnb)
      have hGb:∀ k,G2 k -> w10.heap.size <= k:=fun k hk=>by
       rcases hG k hk with h | h
       ·exact HSB.out k h
       ·have:=HOF.out.size;simp at h;omega
      have HGB:=hd hGb
      have HO2:Hid (Off (fun k=>k=bl) w10 w11):=hd (Off.grow (HOF.out.trans (Off.alloc _ _ _)) hof (fun k hk=>.inr (HSB.out k hk)))
      have hnat:natI L ++ [(j:Int)]=natI (L ++ [j]):=by unfold natI;rw [List.map_append];rfl
      rw [hnat] at hO
      have HOO:=hd hO
      have hl2:(L ++ [j]).length=ln+1:=by rw [List.length_append,HLN.out];rfl
      have HL2:=hd hl2
      clear hO hG hof hGb hnat hl2
      go_roundw
      case rel =>
       refine ⟨j+1,a2,c2,G2,hlt,by go_num, ?_, ?_,HGB.out,HO2.out.trans ((Off.set w11 ⟨bl,1,none⟩ _).mono fun k _ hk=>hk)⟩
       ·rw [HNX.out,HL2.out]
        simpa using HBL2.out.set 1 (.slice a2 (ln+1) c2)
       ·rw [HNX.out,HL2.out]
        exact HOO.out.off (Off.set w11 ⟨bl,1,none⟩ _) (fun k hk e=>by have h9:k=bl:=e;have:=HGB.out k hk;omega)
      case measure=>simp [intOf];omega
    ·obtain rfl:nb=j:=by omega
     have HBY2:Hid (L=bodyN f h):=hd (HLL.out.trans HBY.out)
     obtain ⟨W1,hW1⟩ : ∃ W1,W1=wr:=⟨_,rfl⟩
     have HWC:Hid (Below w.heap.size w W1):=hd (by rw [hW1];exact HW.out)
     have BFC:Hid (Box W1 wv.heap.size (flagsA S)):=hd (by rw [hW1];exact BF.out)
     have B6C:Hid (Box W1 w.heap.size #[.int .i64 0,.slice none 0 0,.slice none 0 0,.slice none 0 0,.int .i64 0]):=hd (by rw [hW1];exact B6.out)
     have BLC:Hid (Box W1 bl #[.int .i64 h,.slice a ln c,.slice la nl lc,.slice none 0 0,.int .i64 0]):=hd (by rw [hW1];exact BL.out)
     have HOC:Hid (OInts W1 Sb (.slice a ln c) (natI L)):=hd (by rw [hW1];exact HOB.out)
     have gW1:bl < W1.heap.size:=BLC.out.lt
     have HLE:=hd hle
     go_wp2_with fail
     clear lB6 cB6 fB6 lBN cBN fBN lBS cBS fBS lBT cBT fBT lBG cBG fBG lBF cBF fBF lBL cBL fBL
     clear HW B6 BN BS BT BG BF BL HOB HOF HWA BFA B6A BLA hj hlt hle
     rw [<-hW1]
     clear hW1
     go_loopw [102] (fun i wr => ∃ (q:Nat) (E:List Nat) (d:Option Addr) (e:Nat) (Se:Foot),q <= ln/\i = .int .i64 q/\ExitI f h ((L.take q).flatMap (toB f)) E/\Box wr bl #[.int .i64 h,.slice a ln c,.slice la nl lc,.slice d E.length e,.int .i64 0]/\OInts wr Se (.slice d E.length e) (natI E)/\(∀ k,Se k -> W1.heap.size <= k)/\Off (fun k=>k=bl) W1 wr) (fun i _=>ln - (intOf i).toNat)
     case atStart=>exact ⟨0,[],none,0,Foot.none,Nat.zero_le _,rfl,ExitI.nil f h,BLC.out,OInts.nil none,fun k hk=>hk.elim,Off.refl _ _⟩
     case round =>
      obtain ⟨q,E,d,e,Se,hq,rfl,hex,hbx,hoe,hse,ho⟩:=hrel
      obtain ⟨el,hel⟩ : ∃ el,el=E.length:=⟨_,rfl⟩
      rw [<-hel] at hbx hoe
      have HEL:=hd hel
      have HEX:=hd hex
      have HOE:=hd hoe
      have HSE:=hd hse
      have HOF:=hd ho
      have BL:=hd hbx
      have HBL0:=BL
      clear hel hex hbx hoe hse ho
      have HW:Hid (Below w.heap.size w wr):=hd (HWC.out.trans (HOF.out.below HWC.out.size (fun k _ hk=>by have h9:k=bl:=hk;have:=HW4.out.size;omega)))
      have BF:=hd (BFC.out.off HOF.out (fun hk=>by have h9:wv.heap.size=bl:=hk;omega))
      have B6:=hd (B6C.out.off HOF.out (fun hk=>by have h9:w.heap.size=bl:=hk;omega))
      have BN:=hd (HNV.out.n.later HW.out)
      have BS:=hd (HNV.out.s.later HW.out)
      have BT:=hd (HNV.out.t.later HW.out)
      have BG:=hd (HNV.out.g.later HW.out)
      rw [<-HNB.out] at BT BG
      obtain ⟨lB6,cB6,fB6⟩:=B6.out
      obtain ⟨lBN,cBN,fBN⟩:=BN.out
      obtain ⟨lBS,cBS,fBS⟩:=BS.out
      obtain ⟨lBT,cBT,fBT⟩:=BT.out
      obtain ⟨lBG,cBG,fBG⟩:=BG.out
      obtain ⟨lBF,cBF,fBF⟩:=BF.out
      obtain ⟨lBL,cBL,fBL⟩:=BL.out
      by_cases hlt:q < ln
      ·obtain ⟨b,hb⟩ : ∃ b,L[q]? = some b:=⟨_,List.getElem?_eq_getElem (by rw [<-HLN.out];exact hlt)⟩
       have hbn:b < nb:=by
        have h9:=List.mem_of_getElem? hb
        rw [HBY2.out] at h9
        have:=((mem_bodyN HHH.out).1 h9).lt HHH.out
        rw [HNB.out];exact this
       obtain ⟨x,hx⟩ : ∃ x,f.blocks[b]? = some x:=⟨_,List.getElem?_eq_getElem (by rw [<-HNB.out];exact hbn)⟩
       obtain ⟨api,aii,ati,cpi,cii,cti,hC⟩:=HBX.out b x hx
       have HBC:=hd (hC.below HW.out hbbl)
       have z4:=HBC.out.c4
       obtain ⟨gb,go_,gc,he,hgl, -, -,hgx⟩:=ints_cells HOC.out.ints (by rw [natI_len, <-HLN.out];omega)
       injection he with x1 x2 x3
       subst x1
       subst x3
       have hgS:¬ (gb=bl):=fun e=>by
        obtain ⟨g2,cap2,hg2,hG, -, -, -, -, -⟩:=HOC.out.1.addr (by rw [natI_len, <-HLN.out];omega)
        injection hg2 with y1 y2 y3
        injection y1 with y1
        injection y1 with y1 y2 y3
        have:=HSB.out g2 hG
        omega
       have hcb:=(HOF.out.cell (b:=gb) (o:=go_+q) hgl (fun hk=>hgS hk)).trans (hgx q (by rw [natI_len, <-HLN.out];exact hlt))
       have hgv:(natI L).getD q 0=(b:Int):=by unfold natI;rw [List.getD_eq_getElem?_getD,List.getElem?_map,hb];rfl
       rw [hgv] at hcb
       obtain ⟨nt,hnt⟩ : ∃ nt,nt=x.term.to.length:=⟨_,rfl⟩
       rw [<-hnt] at z4
       have HNT:=hd hnt
       have HX:=hd hx
       have HB:=hd hb
       have HTO:=hd (show Ints w (.slice ati nt cti) x.term.to by rw [hnt];exact hC.to)
       have HQ:Hid (L.take (q+1)=L.take q ++ [b]):=hd (by rw [List.take_add_one,hb];rfl)
       clear hC hgx hgv hnt hx hb x2 hgS
       go_wp2_with fail
       clear hcb z4
       clear lB6 cB6 fB6 lBN cBN fBN lBS cBS fBS lBT cBT fBT lBG cBG fBG lBF cBF fBF lBL cBL fBL
       have HMR:Hid (∀ j:Nat, ∀ t ∈ (L.take q).flatMap (toB f) ++ (toB f b).take j,t < f.blocks.length):=hd (fun j t ht=>by
        rcases List.mem_append.1 ht with h9 | h9
        ·obtain ⟨b2,_,h8⟩:=List.mem_flatMap.1 h9
         exact toB_less HF.out h8
        ·exact toB_less HF.out (List.mem_of_mem_take h9))
       have hnt64:=HTO.out.le
       rw [<-HNT.out] at hnt64
       clear HW B6 BN BS BT BG BF BL
       have HEX0:Hid (ExitI f h ((L.take q).flatMap (toB f) ++ (toB f b).take 0) E):=hd (by rw [List.take_zero,List.append_nil];exact HEX.out)
       have HIN0:Hid (Box wr bl #[.int .i64 h,.slice (some ⟨gb,go_,none⟩) ln c,.slice la nl lc,.slice d E.length e,.int .i64 0]/\OInts wr Se (.slice d E.length e) (natI E)):=hd (by rw [<-HEL.out];exact ⟨HBL0.out,HOE.out⟩)
       have HO0:=HOF
       have HSE0:=HSE
       clear HEX HEL HOE HBL0 HOF HSE
       go_loopw [126] (fun i wr => ∃ (j:Nat) (E:List Nat) (d:Option Addr) (e:Nat) (Se:Foot),j <= nt/\i = .int .i64 j/\ExitI f h ((L.take q).flatMap (toB f) ++ (toB f b).take j) E/\Box wr bl #[.int .i64 h,.slice (some ⟨gb,go_,none⟩) ln c,.slice la nl lc,.slice d E.length e,.int .i64 0]/\OInts wr Se (.slice d E.length e) (natI E)/\(∀ k,Se k -> W1.heap.size <= k)/\Off (fun k=>k=bl) W1 wr) (fun i _=>nt - (intOf i).toNat)
       case atStart=>exact ⟨0,E,d,e,Se,Nat.zero_le _,rfl,HEX0.out,HIN0.out.1,HIN0.out.2,HSE0.out,HO0.out⟩
       case round =>
        obtain ⟨j,E,d,e,Se,hj,rfl,hex,hbx,hoe,hse,ho⟩:=hrel
        clear HEX0 HIN0 HO0 HSE0
        obtain ⟨el,hel⟩ : ∃ el,el=E.length:=⟨_,rfl⟩
        rw [<-hel] at hbx hoe
        have hel512:el <= 512:=by have:=exit_len hex (HMR.out j);have:=HNB.out;omega
        have HEL:=hd hel
        have HEX:=hd hex
        have HOE:=hd hoe
        have HSE:=hd hse
        have HOF:=hd ho
        have BL:=hd hbx
        clear hel hex hbx hoe hse ho
        have HW:Hid (Below w.heap.size w wr):=hd (HWC.out.trans (HOF.out.below HWC.out.size (fun k _ hk=>by have h9:k=bl:=hk;have:=HW4.out.size;omega)))
        have BF:=hd (BFC.out.off HOF.out (fun hk=>by have h9:wv.heap.size=bl:=hk;omega))
        have B6:=hd (B6C.out.off HOF.out (fun hk=>by have h9:w.heap.size=bl:=hk;omega))
        have BN:=hd (HNV.out.n.later HW.out)
        have BS:=hd (HNV.out.s.later HW.out)
        have BT:=hd (HNV.out.t.later HW.out)
        have BG:=hd (HNV.out.g.later HW.out)
        rw [<-HNB.out] at BT BG
        obtain ⟨lB6,cB6,fB6⟩:=B6.out
        obtain ⟨lBN,cBN,fBN⟩:=BN.out
        obtain ⟨lBS,cBS,fBS⟩:=BS.out
        obtain ⟨lBT,cBT,fBT⟩:=BT.out
        obtain ⟨lBG,cBG,fBG⟩:=BG.out
        obtain ⟨lBF,cBF,fBF⟩:=BF.out
        obtain ⟨lBL,cBL,fBL⟩:=BL.out
        by_cases hjt:j < nt
        ·obtain ⟨z,hz⟩ : ∃ z,x.term.to[j]? = some z:=⟨_,List.getElem?_eq_getElem (by rw [<-HNT.out];exact hjt)⟩
         have hzr:=formB_to HF.out HX.out z (List.mem_of_getElem? hz)
         obtain ⟨t,rfl⟩ : ∃ t:Nat,z=t:=⟨z.toNat,by omega⟩
         have htn:t < nb:=by rw [HNB.out];omega
         obtain ⟨tb,to_,tc,he,htl, -, -,htx⟩:=ints_cells HTO.out (by rw [<-HNT.out];omega)
         injection he with x1 x2 x3
         subst x1
         subst x3
         have htc:=(HW.out.cell (p:=⟨tb,to_+j,none⟩) htl).trans (htx j (by rw [<-HNT.out];exact hjt))
         rw [getD_some hz] at htc
         have HTK:Hid ((toB f b).take (j+1)=(toB f b).take j ++ [t]):=hd (by
          rw [List.take_add_one,toB_at HX.out,List.getElem?_map,hz];rfl)
         clear htx hz hzr x2
         go_wp2_with fail
         clear htc
         refine (binSearch HOE.out.ints (natI_rise HEX.out.rise)).mono ?_
         rintro e w12 ⟨rfl,hb⟩
         rw [natI_count,natI_has]
         obtain ⟨ci,hci⟩ : ∃ ci,ci=E.countP (· < t):=⟨_,rfl⟩
         obtain ⟨kn,hkn⟩ : ∃ kn,kn=E.contains t:=⟨_,rfl⟩
         rw [<-hci, <-hkn]
         have HCI:=hd hci
         have HKN:=hd hkn
         have HOE2:=hd (HOE.out.off (Off.of_below hb Foot.none) (fun _ _ h=>h))
         have HOF2:=hd (HOF.out.trans (Off.of_below hb _))
         clear hci hkn HOE HOF
         clear lB6 cB6 fB6 lBN cBN fBN lBS cBS fBS lBT cBT fBT lBG cBG fBG lBF cBF fBF lBL cBL fBL
         replace B6:=hd (B6.out.later hb)
         replace BN:=hd (BN.out.later hb)
         replace BS:=hd (BS.out.later hb)
         replace BT:=hd (BT.out.later hb)
         replace BG:=hd (BG.out.later hb)
         replace BF:=hd (BF.out.later hb)
         replace BL:=hd (BL.out.later hb)
         replace HW:=hd (HW.out.trans (hb.mono HW.out.size))
         clear hb
         obtain ⟨lB6,cB6,fB6⟩:=B6.out
         obtain ⟨lBN,cBN,fBN⟩:=BN.out
         obtain ⟨lBS,cBS,fBS⟩:=BS.out
         obtain ⟨lBT,cBT,fBT⟩:=BT.out
         obtain ⟨lBG,cBG,fBG⟩:=BG.out
         obtain ⟨lBF,cBF,fBF⟩:=BF.out
         obtain ⟨lBL,cBL,fBL⟩:=BL.out
         obtain ⟨st,hst⟩ : ∃ st,S[t]? = some st:=⟨_,List.getElem?_eq_getElem (by rw [HSL.out];exact htn)⟩
         have hfl:=flagsA_at hst
         have HST:=hd hst
         clear hst
         cases st
         ·cases kn
          ·have hnot:t ∉ E:=fun hm=>by
            have h9:=HKN.out
            rw [List.contains_iff_mem.2 hm] at h9
            cases h9
           have HNX:Hid (ExitI f h ((L.take q).flatMap (toB f) ++ (toB f b).take (j+1)) (insN E t)):=hd (by
            rw [HTK.out, <-List.append_assoc]
            exact HEX.out.add (fun k=>by have h9:=(HDN.out t).2 k;rw [HST.out] at h9;cases h9) hnot)
           clear hnot
           go_upto_region 26 with (fail)
           go_wp2_with fail
           clear hfl
           clear lB6 cB6 fB6 lBN cBN fBN lBS cBS fBS lBT cBT fBT lBG cBG fBG lBF cBF fBF lBL cBL fBL
           have hSe:¬ Se w12.heap.size:=fun h=>by have:=HOE2.out.lt _ h;omega
           have hnbl:¬ Se bl:=fun h=>by have:=HSE.out bl h;omega
           refine (insertOwn (i:=ci) (HOE2.out.off (Off.alloc Foot.none w12 (.cells #[.int .i64 t] 3)) (fun _ _ h=>h)) (by rw [natI_len,HCI.out];exact List.countP_le_length) ⟨by omega,by omega⟩ (by rw [natI_len, <-HEL.out];omega) (alloc_at _ _ _) hSe).mono ?_
           rintro e3 w13 ⟨g,cap,rfl,hO,hg,hof⟩
           rw [natI_len, <-HEL.out] at hO ⊢
           have hins:insI (natI E) ci t=natI (insN E t):=by rw [HCI.out];exact (natI_ins _ _ _).symm
           rw [hins] at hO
           have hl2:(insN E t).length=el+1:=by
            have h9:=congrArg List.length hins
            rw [insI_len (by rw [natI_len,HCI.out];exact List.countP_le_length),natI_len,natI_len, <-HEL.out] at h9
            exact h9.symm
           have HOO:=hd hO
           have HL2:=hd hl2
           have HGG:Hid (W1.heap.size <= g):=hd (by
            rcases hg with h9 | h9
            ·exact HSE.out g h9
            ·have:=HOF2.out.size;simp at h9;omega)
           have HBL3:=hd ((BL.out.alloc (.cells #[.int .i64 t] 3)).off hof hnbl)
           have HO3:Hid (Off (fun k=>k=bl) W1 w13):=hd (Off.grow (HOF2.out.trans (Off.alloc _ _ _)) hof (fun k hk=>.inr (HSE.out k hk)))
           clear hO hg hof hins hl2 HW B6 BN BS BT BG BF BL hSe hnbl
           obtain ⟨lBL,cBL,fBL⟩:=HBL3.out
           go_wp2
           clear lBL cBL fBL
           go_roundw
           case rel =>
            refine ⟨j+1,insN E t,some ⟨g,0,none⟩,cap,Foot.one g,hjt,by go_num,HNX.out, ?_, ?_,fun k hk=>by cases hk;exact HGG.out,HO3.out.trans ((Off.set w13 ⟨bl,3,none⟩ _).mono fun k _ hk=>hk)⟩
            ·rw [HL2.out]
             simpa using HBL3.out.set 3 (.slice (some ⟨g,0,none⟩) (el+1) cap)
            ·rw [HL2.out]
             exact HOO.out.off (Off.set w13 ⟨bl,3,none⟩ _) (fun k hk e=>by cases hk;have h9:g=bl:=e;have:=HGG.out;omega)
           case measure=>simp [intOf];omega
          ·have HNX:Hid (ExitI f h ((L.take q).flatMap (toB f) ++ (toB f b).take (j+1)) E):=hd (by
            rw [HTK.out, <-List.append_assoc]
            exact HEX.out.skip (.inr (by have h9:=HKN.out;simpa using h9.symm)))
           go_wp2
           clear hfl
           clear lB6 cB6 fB6 lBN cBN fBN lBS cBS fBS lBT cBT fBT lBG cBG fBG lBF cBF fBF lBL cBL fBL
           go_roundw
           case rel=>exact ⟨j+1,E,d,e,Se,hjt,by go_num,HNX.out,by rw [<-HEL.out];exact BL.out,by rw [<-HEL.out];exact HOE2.out,HSE.out,HOF2.out⟩
           case measure=>simp [intOf];omega
         ·have HNX:Hid (ExitI f h ((L.take q).flatMap (toB f) ++ (toB f b).take (j+1)) E):=hd (by
           rw [HTK.out, <-List.append_assoc]
           exact HEX.out.skip (.inl ((HDN.out t).1 HST.out)))
          go_wp2
          clear hfl
          clear lB6 cB6 fB6 lBN cBN fBN lBS cBS fBS lBT cBT fBT lBG cBG fBG lBF cBF fBF lBL cBL fBL
          go_roundw
          case rel=>exact ⟨j+1,E,d,e,Se,hjt,by go_num,HNX.out,by rw [<-HEL.out];exact BL.out,by rw [<-HEL.out];exact HOE2.out,HSE.out,HOF2.out⟩
          case measure=>simp [intOf];omega
        ·obtain rfl:nt=j:=by omega
         have HNX:Hid (ExitI f h ((L.take (q+1)).flatMap (toB f)) E):=hd (by
          have h9:=HEX.out
          rw [List.take_of_length_le (l:=toB f b) (by rw [toB_at HX.out,List.length_map,HNT.out];exact Nat.le_refl _)] at h9
          rw [HQ.out,List.flatMap_append]
          simpa using h9)
         have hle512:=HLE.out
         go_wp2
         clear lB6 cB6 fB6 lBN cBN fBN lBS cBS fBS lBT cBT fBT lBG cBG fBG lBF cBF fBF lBL cBL fBL
         go_roundw
         case rel=>exact ⟨q+1,E,d,e,Se,hlt,by go_num,HNX.out,by rw [<-HEL.out];exact BL.out,by rw [<-HEL.out];exact HOE.out,HSE.out,HOF.out⟩
         case measure=>simp [intOf];omega
      ·obtain rfl:ln=q:=by omega
       have hall:L.take ln=L:=List.take_of_length_le (by rw [HLN.out];exact Nat.le_refl _)
       have hE:E=exitN f h:=by
        have h9:=HEX.out
        rw [hall,HBY2.out] at h9
        exact h9.done HF.out HHH.out
       have HE:=hd hE
       have HOCR:Hid (OInts wr Sb (.slice a ln c) (natI L)):=hd (HOC.out.off HOF.out (fun k hk e=>by have h9:k=bl:=e;have:=HSB.out k hk;omega))
       have HO6:Hid (OffF (fun k=>k=w.heap.size) wr wr):=hd (Off.refl _ _)
       clear hall hE hq hlt
       go_wp2_with fail
       have B6_:Box (((((wr.setCell ⟨w.heap.size,0,none⟩ (.int .i64 h)).setCell ⟨w.heap.size,1,none⟩ (.slice a ln c)).setCell ⟨w.heap.size,2,none⟩ (.slice la nl lc)).setCell ⟨w.heap.size,3,none⟩ (.slice d el e)).setCell ⟨w.heap.size,4,none⟩ (.int .i64 0)) (w.heap.size) #[(.int .i64 h),(.slice a ln c),(.slice la nl lc),(.slice d el e),(.int .i64 0)]:=by simpa using (((((B6.out.set 0 (.int .i64 h)).set 1 (.slice a ln c)).set 2 (.slice la nl lc)).set 3 (.slice d el e)).set 4 (.int .i64 0))
       have BN_:Box (((((wr.setCell ⟨w.heap.size,0,none⟩ (.int .i64 h)).setCell ⟨w.heap.size,1,none⟩ (.slice a ln c)).setCell ⟨w.heap.size,2,none⟩ (.slice la nl lc)).setCell ⟨w.heap.size,3,none⟩ (.slice d el e)).setCell ⟨w.heap.size,4,none⟩ (.int .i64 0)) (bn) #[.pointer (some ⟨bs,0,none⟩),lsv]:=by simpa using (((((BN.out.other (p:=⟨w.heap.size,0,none⟩) (.int .i64 h) (by first | assumption | (simp;done) | omega | (dsimp only;omega))).other (p:=⟨w.heap.size,1,none⟩) (.slice a ln c) (by first | assumption | (simp;done) | omega | (dsimp only;omega))).other (p:=⟨w.heap.size,2,none⟩) (.slice la nl lc) (by first | assumption | (simp;done) | omega | (dsimp only;omega))).other (p:=⟨w.heap.size,3,none⟩) (.slice d el e) (by first | assumption | (simp;done) | omega | (dsimp only;omega))).other (p:=⟨w.heap.size,4,none⟩) (.int .i64 0) (by first | assumption | (simp;done) | omega | (dsimp only;omega)))
       have BS_:Box (((((wr.setCell ⟨w.heap.size,0,none⟩ (.int .i64 h)).setCell ⟨w.heap.size,1,none⟩ (.slice a ln c)).setCell ⟨w.heap.size,2,none⟩ (.slice la nl lc)).setCell ⟨w.heap.size,3,none⟩ (.slice d el e)).setCell ⟨w.heap.size,4,none⟩ (.int .i64 0)) (bs) #[.pointer (some ⟨bt,0,none⟩),A1,A2]:=by simpa using (((((BS.out.other (p:=⟨w.heap.size,0,none⟩) (.int .i64 h) (by first | assumption | (simp;done) | omega | (dsimp only;omega))).other (p:=⟨w.heap.size,1,none⟩) (.slice a ln c) (by first | assumption | (simp;done) | omega | (dsimp only;omega))).other (p:=⟨w.heap.size,2,none⟩) (.slice la nl lc) (by first | assumption | (simp;done) | omega | (dsimp only;omega))).other (p:=⟨w.heap.size,3,none⟩) (.slice d el e) (by first | assumption | (simp;done) | omega | (dsimp only;omega))).other (p:=⟨w.heap.size,4,none⟩) (.int .i64 0) (by first | assumption | (simp;done) | omega | (dsimp only;omega)))
       have BT_:Box (((((wr.setCell ⟨w.heap.size,0,none⟩ (.int .i64 h)).setCell ⟨w.heap.size,1,none⟩ (.slice a ln c)).setCell ⟨w.heap.size,2,none⟩ (.slice la nl lc)).setCell ⟨w.heap.size,3,none⟩ (.slice d el e)).setCell ⟨w.heap.size,4,none⟩ (.int .i64 0)) (bt) #[.pointer (some ⟨bg,0,none⟩),.slice (some ⟨lg,0,none⟩) nb lcap]:=by simpa using (((((BT.out.other (p:=⟨w.heap.size,0,none⟩) (.int .i64 h) (by first | assumption | (simp;done) | omega | (dsimp only;omega))).other (p:=⟨w.heap.size,1,none⟩) (.slice a ln c) (by first | assumption | (simp;done) | omega | (dsimp only;omega))).other (p:=⟨w.heap.size,2,none⟩) (.slice la nl lc) (by first | assumption | (simp;done) | omega | (dsimp only;omega))).other (p:=⟨w.heap.size,3,none⟩) (.slice d el e) (by first | assumption | (simp;done) | omega | (dsimp only;omega))).other (p:=⟨w.heap.size,4,none⟩) (.int .i64 0) (by first | assumption | (simp;done) | omega | (dsimp only;omega)))
       have BG_:Box (((((wr.setCell ⟨w.heap.size,0,none⟩ (.int .i64 h)).setCell ⟨w.heap.size,1,none⟩ (.slice a ln c)).setCell ⟨w.heap.size,2,none⟩ (.slice la nl lc)).setCell ⟨w.heap.size,3,none⟩ (.slice d el e)).setCell ⟨w.heap.size,4,none⟩ (.int .i64 0)) (bg) #[.slice ap np cp,.int .i64 ar,.int .i64 ce,.slice (some ⟨bb,bo,none⟩) nb cb,.slice (some ⟨pb,po,none⟩) nb pc,ov,lv]:=by simpa using (((((BG.out.other (p:=⟨w.heap.size,0,none⟩) (.int .i64 h) (by first | assumption | (simp;done) | omega | (dsimp only;omega))).other (p:=⟨w.heap.size,1,none⟩) (.slice a ln c) (by first | assumption | (simp;done) | omega | (dsimp only;omega))).other (p:=⟨w.heap.size,2,none⟩) (.slice la nl lc) (by first | assumption | (simp;done) | omega | (dsimp only;omega))).other (p:=⟨w.heap.size,3,none⟩) (.slice d el e) (by first | assumption | (simp;done) | omega | (dsimp only;omega))).other (p:=⟨w.heap.size,4,none⟩) (.int .i64 0) (by first | assumption | (simp;done) | omega | (dsimp only;omega)))
       have BF_:Box (((((wr.setCell ⟨w.heap.size,0,none⟩ (.int .i64 h)).setCell ⟨w.heap.size,1,none⟩ (.slice a ln c)).setCell ⟨w.heap.size,2,none⟩ (.slice la nl lc)).setCell ⟨w.heap.size,3,none⟩ (.slice d el e)).setCell ⟨w.heap.size,4,none⟩ (.int .i64 0)) (wv.heap.size) (flagsA S):=by first | exact (((((BF.out.other (p:=⟨w.heap.size,0,none⟩) (.int .i64 h) (by first | assumption | (simp;done) | omega | (dsimp only;omega))).other (p:=⟨w.heap.size,1,none⟩) (.slice a ln c) (by first | assumption | (simp;done) | omega | (dsimp only;omega))).other (p:=⟨w.heap.size,2,none⟩) (.slice la nl lc) (by first | assumption | (simp;done) | omega | (dsimp only;omega))).other (p:=⟨w.heap.size,3,none⟩) (.slice d el e) (by first | assumption | (simp;done) | omega | (dsimp only;omega))).other (p:=⟨w.heap.size,4,none⟩) (.int .i64 0) (by first | assumption | (simp;done) | omega | (dsimp only;omega))) | simpa using (((((BF.out.other (p:=⟨w.heap.size,0,none⟩) (.int .i64 h) (by first | assumption | (simp;done) | omega | (dsimp only;omega))).other (p:=⟨w.heap.size,1,none⟩) (.slice a ln c) (by first | assumption | (simp;done) | omega | (dsimp only;omega))).other (p:=⟨w.heap.size,2,none⟩) (.slice la nl lc) (by first | assumption | (simp;done) | omega | (dsimp only;omega))).other (p:=⟨w.heap.size,3,none⟩) (.slice d el e) (by first | assumption | (simp;done) | omega | (dsimp only;omega))).other (p:=⟨w.heap.size,4,none⟩) (.int .i64 0) (by first | assumption | (simp;done) | omega | (dsimp only;omega)))
       have BL_:Box (((((wr.setCell ⟨w.heap.size,0,none⟩ (.int .i64 h)).setCell ⟨w.heap.size,1,none⟩ (.slice a ln c)).setCell ⟨w.heap.size,2,none⟩ (.slice la nl lc)).setCell ⟨w.heap.size,3,none⟩ (.slice d el e)).setCell ⟨w.heap.size,4,none⟩ (.int .i64 0)) (bl) #[.int .i64 h,.slice a ln c,.slice la nl lc,.slice d el e,.int .i64 0]:=by simpa using (((((BL.out.other (p:=⟨w.heap.size,0,none⟩) (.int .i64 h) (by first | assumption | (simp;done) | omega | (dsimp only;omega))).other (p:=⟨w.heap.size,1,none⟩) (.slice a ln c) (by first | assumption | (simp;done) | omega | (dsimp only;omega))).other (p:=⟨w.heap.size,2,none⟩) (.slice la nl lc) (by first | assumption | (simp;done) | omega | (dsimp only;omega))).other (p:=⟨w.heap.size,3,none⟩) (.slice d el e) (by first | assumption | (simp;done) | omega | (dsimp only;omega))).other (p:=⟨w.heap.size,4,none⟩) (.int .i64 0) (by first | assumption | (simp;done) | omega | (dsimp only;omega)))
       have HO6_:=(((((HO6.out.other (p:=⟨w.heap.size,0,none⟩) (.int .i64 h) (by simp)).other (p:=⟨w.heap.size,1,none⟩) (.slice a ln c) (by simp)).other (p:=⟨w.heap.size,2,none⟩) (.slice la nl lc) (by simp)).other (p:=⟨w.heap.size,3,none⟩) (.slice d el e) (by simp)).other (p:=⟨w.heap.size,4,none⟩) (.int .i64 0) (by simp))
       have HW_:Below w.heap.size w (((((wr.setCell ⟨w.heap.size,0,none⟩ (.int .i64 h)).setCell ⟨w.heap.size,1,none⟩ (.slice a ln c)).setCell ⟨w.heap.size,2,none⟩ (.slice la nl lc)).setCell ⟨w.heap.size,3,none⟩ (.slice d el e)).setCell ⟨w.heap.size,4,none⟩ (.int .i64 0)):=(((((HW.out.setCell (p:=⟨w.heap.size,0,none⟩) (by first | assumption | omega | (dsimp only;omega) | (have:=HW.out.size;omega) | (simp;done) | (simp;omega)) (.int .i64 h)).setCell (p:=⟨w.heap.size,1,none⟩) (by first | assumption | omega | (dsimp only;omega) | (have:=HW.out.size;omega) | (simp;done) | (simp;omega)) (.slice a ln c)).setCell (p:=⟨w.heap.size,2,none⟩) (by first | assumption | omega | (dsimp only;omega) | (have:=HW.out.size;omega) | (simp;done) | (simp;omega)) (.slice la nl lc)).setCell (p:=⟨w.heap.size,3,none⟩) (by first | assumption | omega | (dsimp only;omega) | (have:=HW.out.size;omega) | (simp;done) | (simp;omega)) (.slice d el e)).setCell (p:=⟨w.heap.size,4,none⟩) (by first | assumption | omega | (dsimp only;omega) | (have:=HW.out.size;omega) | (simp;done) | (simp;omega)) (.int .i64 0))
       clear lB6 cB6 fB6 lBN cBN fBN lBS cBS fBS lBT cBT fBT lBG cBG fBG lBF cBF fBF lBL cBL fBL
       clear B6 BN BS BT BG BF BL HO6 HW
       generalize (((((wr.setCell ⟨w.heap.size,0,none⟩ (.int .i64 h)).setCell ⟨w.heap.size,1,none⟩ (.slice a ln c)).setCell ⟨w.heap.size,2,none⟩ (.slice la nl lc)).setCell ⟨w.heap.size,3,none⟩ (.slice d el e)).setCell ⟨w.heap.size,4,none⟩ (.int .i64 0))=wz at *
       have B6:=hd B6_
       clear B6_
       have BN:=hd BN_
       clear BN_
       have BS:=hd BS_
       clear BS_
       have BT:=hd BT_
       clear BT_
       have BG:=hd BG_
       clear BG_
       have BF:=hd BF_
       clear BF_
       have BL:=hd BL_
       clear BL_
       have HO6:=hd HO6_
       clear HO6_
       have HW:=hd HW_
       clear HW_
       obtain ⟨lB6,cB6,fB6⟩:=B6.out
       obtain ⟨lBN,cBN,fBN⟩:=BN.out
       obtain ⟨lBS,cBS,fBS⟩:=BS.out
       obtain ⟨lBT,cBT,fBT⟩:=BT.out
       obtain ⟨lBG,cBG,fBG⟩:=BG.out
       obtain ⟨lBF,cBF,fBF⟩:=BF.out
       obtain ⟨lBL,cBL,fBL⟩:=BL.out
       refine bodyPost_ret (v:=.agg #[.int .i64 h,.slice a ln c,.slice la nl lc,.slice d el e,.int .i64 0]) (by simp [results,Tryz.results111,go_sem,cB6]) rfl ⟨a,d,c,e,Sb,Se, ?_, ?_, ?_,fun k hk => ?_,fun k hk => ?_,HW.out⟩
       ·rw [<-HBY2.out, <-HE.out, <-HLN.out, <-HEL.out]
       ·rw [<-HBY2.out, <-HLN.out];exact HOCR.out.off HO6.out (fun k hk e=>by have h9:k=w.heap.size:=e;have:=HSB.out k hk;have:=HW4.out.size;omega)
       ·rw [<-HE.out, <-HEL.out];exact HOE.out.off HO6.out (fun k hk e=>by have h9:k=w.heap.size:=e;have:=HSE.out k hk;omega)
       ·have:=HSB.out k hk;have:=HW4.out.size;omega
       ·have:=HSE.out k hk;omega
end Go.Proofs.YtgmhnepmkaonaaaGreat
