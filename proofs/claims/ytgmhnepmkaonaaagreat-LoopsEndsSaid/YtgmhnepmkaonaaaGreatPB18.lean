/- What the claim needs,part 18. -/
import Derived.Test.YtgmhnepmkaonaaaGreatPB12
namespace Go.Proofs.YtgmhnepmkaonaaaGreat
set_option linter.unusedSimpArgs false
set_option linter.unusedVariables false
open Go.RowKit
theorem Turn.setCell {w:World} {b:Nat} (o:Nat) (v:Value):Turn [b] w (w.setCell ⟨b,o,none⟩ v) :=
 ⟨rfl,rfl,rfl,by simp [World.setCell],fun k hk hn=>Below.heap_setCell w ⟨b,o,none⟩ v k (by simpa using hn)⟩
theorem IMap.other {w:World} {b:Nat} {m:List (Int × Value)} (h:IMap w b m) {p:Addr} (v:Value) (hp:b ≠ p.block):IMap (w.setCell p v) b m:=h.keep (Below.heap_setCell w p v b hp)
structure OpenI (T:List (Int × Int)) (bc bm bq be:Nat) (A:Array Value) (us:List (Int × Int)) (W:World):Prop where
 map:IMap W bm (encT T)
 chk:Box W bc A
 ptr:Box W bq #[.pointer (some ⟨bc,0,none⟩)]
 err:Box W be #[.int .i64 (usesE T us)]
theorem OpenI.later {T:List (Int × Int)} {bc bm bq be:Nat} {A:Array Value} {us:List (Int × Int)} {W W' : World} (h:OpenI T bc bm bq be A us W) (hb:Below W.heap.size W W'):OpenI T bc bm bq be A us W' :=
 ⟨h.map.later hb,h.chk.later hb,h.ptr.later hb,h.err.later hb⟩
theorem OpenI.set {T:List (Int × Int)} {bc bm bq be:Nat} {A:Array Value} {us:List (Int × Int)} {W:World} (h:OpenI T bc bm bq be A us W) (u:Int × Int) (x:Int) (hx:usesE T (us ++ [u])=x) (hne:bm ≠ be/\bc ≠ be/\bq ≠ be) :
  OpenI T bc bm bq be A (us ++ [u]) (W.setCell ⟨be,0,none⟩ (.int .i64 x)) :=
 ⟨h.map.other _ hne.1,h.chk.other _ hne.2.1,h.ptr.other _ hne.2.2,by rw [hx];simpa using h.err.set 0 (.int .i64 x)⟩
theorem OpenI.same {T:List (Int × Int)} {bc bm bq be:Nat} {A:Array Value} {us:List (Int × Int)} {W:World} (h:OpenI T bc bm bq be A us W) (u:Int × Int) (hx:usesE T (us ++ [u])=usesE T us) :
  OpenI T bc bm bq be A (us ++ [u]) W:=⟨h.map,h.chk,h.ptr,by rw [hx];exact h.err⟩
set_option maxHeartbeats 3200000 in
theorem openAsk {W:World} {T:List (Int × Int)} {bc bm bq be:Nat} {vp vb:Value} {ar ce:Int} {us:List (Int × Int)} (u:Int × Int) (hne:bm ≠ be/\bc ≠ be/\bq ≠ be) (h:OpenI T bc bm bq be (chk vp vb ar ce bm) us W) :
  Calls Tryz.prog 135 #[.int .i64 u.1,.int .i64 u.2,.pointer (some ⟨bq,0,none⟩),.pointer (some ⟨be,0,none⟩)] W fun e W'=>e = .returned (.tuple #[])/\OpenI T bc bm bq be (chk vp vb ar ce bm) (us ++ [u]) W' /\ Turn [be] W W':=by
 have H:=Lib.hid h
 have HNE:=Lib.hid hne
 have HU:=Lib.hid (usesE_step T us u)
 obtain ⟨id,typ⟩:=u
 simp only at *
 have hq:=h.ptr.at 0 rfl
 have h4:=h.chk.at 4 (v:=.map (some bm)) rfl
 have he:=h.err
 have HI:=Lib.hid h.map
 have HMG:=Lib.hid (mget_enc T id)
 obtain ⟨x,hx⟩ : ∃ x,x=usesE T us:=⟨_,rfl⟩
 rw [<-hx] at he HU
 have HX:=Lib.hid hx
 obtain ⟨le,hce,hfe⟩:=he
 clear h hne hx
 cases hty:tyOf T id with
 | none =>
  rw [hty] at HMG
  have HU2:Hid (usesE T (us ++ [(id,typ)])=6):=Lib.hid (by rw [HU.out];unfold useE;simp only [hty])
  clear hty
  go_enter Tryz.func135,Tryz.ntmps135
  go_wp2_with (at_lookup;refine wpList_look (q:=.i64) (z:=.int .i64 0) (b:=bm) (mm:=encT T) (y:=id) rfl _ _ _ rfl Tryz.underlying98 Tryz.underlying3 (zeroInt _) rfl HI.out rfl ?_;rw [HMG.out])
  exact bodyPost_end (v:=.tuple #[]) (by simp [results,Tryz.results135,go_sem, *]) rfl ⟨rfl,H.out.set _ 6 HU2.out HNE.out,Turn.setCell _ _⟩
 | some t =>
  rw [hty] at HMG
  have HU2:Hid (usesE T (us ++ [(id,typ)])=if typ ≠ 0/\t ≠ typ/\x=0 then 3 else x):=Lib.hid (by rw [HU.out];unfold useE;simp only [hty])
  clear hty
  cases h1:(typ != 0) <;> cases h2:(t != typ) <;> cases h3:(x == 0)
  all_goals
   have H1:=Lib.hid h1
   have H2:=Lib.hid h2
   have H3:=Lib.hid h3
   go_enter Tryz.func135,Tryz.ntmps135
   go_wp2_with (at_lookup;refine wpList_look (q:=.i64) (z:=.int .i64 0) (b:=bm) (mm:=encT T) (y:=id) rfl _ _ _ rfl Tryz.underlying98 Tryz.underlying3 (zeroInt _) rfl HI.out rfl ?_;rw [HMG.out])
   first
    | exact bodyPost_end (v:=.tuple #[]) (by simp [results,Tryz.results135,go_sem, *]) rfl ⟨rfl,H.out.set _ 3 (by rw [HU2.out,if_pos];have e1:=H1.out;have e2:=H2.out;have e3:=H3.out;simp at e1 e2 e3;exact ⟨e1,e2,e3⟩) HNE.out,Turn.setCell _ _⟩
    | exact bodyPost_end (v:=.tuple #[]) (by simp [results,Tryz.results135,go_sem, *]) rfl ⟨rfl,H.out.same _ (by rw [HU2.out, <-HX.out,if_neg];have e1:=H1.out;have e2:=H2.out;have e3:=H3.out;simp at e1 e2 e3;rintro ⟨q1,q2,q3⟩;simp_all),Turn.refl _ _⟩
theorem openEnters:Enters Tryz.prog 135:=enters_of Tryz.func135 (by kernel_rfl) rfl
theorem form_args {f:FuncD} (h:formB f=true):∀ b ∈ f.blocks, ∀ x ∈ b.code,x.args.length <= (shp0 x.op).args.length:=by
 intro b hb x hx
 unfold formB at h
 simp only [Bool.and_eq_true,List.all_eq_true] at h
 obtain ⟨j,hj,rfl⟩:=List.getElem_of_mem hb
 have h1:=h.2 (f.blocks[j],j) (by rw [List.mem_iff_getElem?];exact ⟨j,by simp [hj]⟩)
 unfold blockOk at h1
 simp only [Bool.and_eq_true,List.all_eq_true] at h1
 have h2:=h1.1.2 x hx
 unfold instrOk at h2
 simp only [Bool.and_eq_true,beq_iff_eq] at h2
 exact Nat.le_of_eq h2.1.1.2
def OpenR (f:FuncD) (w:World) (e:Ending) (w' : World):Prop :=
 Below w.heap.size w w' /\ ∃ m,e = .returned (.tuple #[.map m,.int .i64 (checkF f)])/\(checkF f=0 -> ∃ bm,m=some bm/\IMap w' bm (encT (valsF f))/\w.heap.size <= bm)/\(checkF f ≠ 0 -> m=none)
theorem OpenR.bad {f:FuncD} {w w' : World} {c:Int} (hb:Below w.heap.size w w') (hc:checkF f=c) (h0:c ≠ 0):OpenR f w (.returned (.tuple #[.map none,.int .i64 c])) w':=by
 subst hc;exact ⟨hb,none,rfl,fun h=>absurd h h0,fun _=>rfl⟩
theorem OpenR.good {f:FuncD} {w w' : World} {bm:Nat} (hb:Below w.heap.size w w') (hc:checkF f=0) (hm:IMap w' bm (encT (valsF f))) (hl:w.heap.size <= bm):OpenR f w (.returned (.tuple #[.map (some bm),.int .i64 0])) w' :=
 ⟨hb,some bm,by rw [hc],fun _=>⟨bm,rfl,hm,hl⟩,fun h=>absurd hc h⟩
set_option maxHeartbeats 6400000 in
theorem irOpen {w:World} {v:Value} {f:FuncD} (hv:FuncV w v f):Calls Tryz.prog 96 #[v] w (OpenR f w):=by
 obtain ⟨a,b,rfl,hp,ha,hc,hB⟩:=hv
 obtain ⟨ap,cp,rfl⟩:=hp.form
 obtain ⟨ab,cb,rfl⟩:=hB.form
 have HP:=Lib.hid hp
 have HB:=Lib.hid hB
 have HCH:Hid (checkF f=if formB f && idsF f then usesE (valsF f) (usesF f) else 2):=Lib.hid rfl
 have HFM:=Lib.hid (formM_is f)
 obtain ⟨c,hcc⟩ : ∃ c,c=checkF f:=⟨_,rfl⟩
 rw [<-hcc] at HCH
 have HC:=Lib.hid hcc
 have HNP:Hid (f.params.length=f.params.length):=Lib.hid rfl
 clear hp hB ha hc hcc HNP
 obtain ⟨np,hnp⟩ : ∃ np,np=f.params.length:=⟨_,rfl⟩
 obtain ⟨nb,hnb⟩ : ∃ nb,nb=f.blocks.length:=⟨_,rfl⟩
 obtain ⟨ar,har⟩ : ∃ ar,ar=f.arrays:=⟨_,rfl⟩
 obtain ⟨ce,hce⟩ : ∃ ce,ce=f.cells:=⟨_,rfl⟩
 rw [<-hnp] at HP
 rw [<-hnb] at HB
 rw [<-hnp, <-hnb, <-har, <-hce]
 have HNP:=Lib.hid hnp
 have HNB:=Lib.hid hnb
 have HAR:=Lib.hid har
 have HCE:=Lib.hid hce
 clear hnp hnb har hce
 have hmm:=@run_makeMap Tryz.prog
 go_enter Tryz.func96,Tryz.ntmps96
 go_upto_region 2 with (fail)
 clear hmm
 have HI:Hid (IMap ((((w.alloc (.cells #[.slice ap np cp,.int .i64 ar,.int .i64 ce,.slice ab nb cb] 25)).alloc (.map #[] 0)).alloc (.cells #[.slice ap np cp,.int .i64 ar,.int .i64 ce,.slice ab nb cb,.map (some (w.heap.size+1))] 179)).alloc (.cells #[.pointer (some ⟨w.heap.size+1+1,0,none⟩)] 177)) (w.heap.size+1) []):=Lib.hid (by
  have h:=((IMap.new (w.alloc (.cells #[.slice ap np cp,.int .i64 ar,.int .i64 ce,.slice ab nb cb] 25))).alloc (.cells #[.slice ap np cp,.int .i64 ar,.int .i64 ce,.slice ab nb cb,.map (some (w.heap.size+1))] 179)).alloc (.cells #[.pointer (some ⟨w.heap.size+1+1,0,none⟩)] 177)
  simpa using h)
 have B1:Hid (Box ((((w.alloc (.cells #[.slice ap np cp,.int .i64 ar,.int .i64 ce,.slice ab nb cb] 25)).alloc (.map #[] 0)).alloc (.cells #[.slice ap np cp,.int .i64 ar,.int .i64 ce,.slice ab nb cb,.map (some (w.heap.size+1))] 179)).alloc (.cells #[.pointer (some ⟨w.heap.size+1+1,0,none⟩)] 177)) (w.heap.size) #[.slice ap np cp,.int .i64 ar,.int .i64 ce,.slice ab nb cb]):=Lib.hid ((((Box.new _ _ _).alloc _).alloc _).alloc _)
 have BC:Hid (Box ((((w.alloc (.cells #[.slice ap np cp,.int .i64 ar,.int .i64 ce,.slice ab nb cb] 25)).alloc (.map #[] 0)).alloc (.cells #[.slice ap np cp,.int .i64 ar,.int .i64 ce,.slice ab nb cb,.map (some (w.heap.size+1))] 179)).alloc (.cells #[.pointer (some ⟨w.heap.size+1+1,0,none⟩)] 177)) (w.heap.size+1+1) #[.slice ap np cp,.int .i64 ar,.int .i64 ce,.slice ab nb cb,.map (some (w.heap.size+1))]):=Lib.hid (by
  have h:=(Box.new ((w.alloc (.cells #[.slice ap np cp,.int .i64 ar,.int .i64 ce,.slice ab nb cb] 25)).alloc (.map #[] 0)) #[.slice ap np cp,.int .i64 ar,.int .i64 ce,.slice ab nb cb,.map (some (w.heap.size+1))] 179).alloc (.cells #[.pointer (some ⟨w.heap.size+1+1,0,none⟩)] 177)
  simpa using h)
 have BQ:Hid (Box ((((w.alloc (.cells #[.slice ap np cp,.int .i64 ar,.int .i64 ce,.slice ab nb cb] 25)).alloc (.map #[] 0)).alloc (.cells #[.slice ap np cp,.int .i64 ar,.int .i64 ce,.slice ab nb cb,.map (some (w.heap.size+1))] 179)).alloc (.cells #[.pointer (some ⟨w.heap.size+1+1,0,none⟩)] 177)) (w.heap.size+1+1+1) #[.pointer (some ⟨w.heap.size+1+1,0,none⟩)]):=Lib.hid (by
  have h:=Box.new (((w.alloc (.cells #[.slice ap np cp,.int .i64 ar,.int .i64 ce,.slice ab nb cb] 25)).alloc (.map #[] 0)).alloc (.cells #[.slice ap np cp,.int .i64 ar,.int .i64 ce,.slice ab nb cb,.map (some (w.heap.size+1))] 179)) #[.pointer (some ⟨w.heap.size+1+1,0,none⟩)] 177
  simpa using h)
 have HW:Hid (Below w.heap.size w ((((w.alloc (.cells #[.slice ap np cp,.int .i64 ar,.int .i64 ce,.slice ab nb cb] 25)).alloc (.map #[] 0)).alloc (.cells #[.slice ap np cp,.int .i64 ar,.int .i64 ce,.slice ab nb cb,.map (some (w.heap.size+1))] 179)).alloc (.cells #[.pointer (some ⟨w.heap.size+1+1,0,none⟩)] 177))):=Lib.hid (((((Below.refl _ _).alloc (Nat.le_refl _) _).alloc (by simp) _).alloc (by simp;omega) _).alloc (by simp;omega) _)
 generalize ((((w.alloc (.cells #[.slice ap np cp,.int .i64 ar,.int .i64 ce,.slice ab nb cb] 25)).alloc (.map #[] 0)).alloc (.cells #[.slice ap np cp,.int .i64 ar,.int .i64 ce,.slice ab nb cb,.map (some (w.heap.size+1))] 179)).alloc (.cells #[.pointer (some ⟨w.heap.size+1+1,0,none⟩)] 177))=w2 at *
 obtain ⟨bm,hbm⟩ : ∃ bm,bm=w.heap.size+1:=⟨_,rfl⟩
 obtain ⟨bc,hbc⟩ : ∃ bc,bc=w.heap.size+1+1:=⟨_,rfl⟩
 obtain ⟨bq,hbq⟩ : ∃ bq,bq=w.heap.size+1+1+1:=⟨_,rfl⟩
 obtain ⟨b1,hb1⟩ : ∃ b1,b1=w.heap.size:=⟨_,rfl⟩
 have n1:bc ≠ bm:=by omega
 have n2:bq ≠ bm:=by omega
 have n3:b1 ≠ bm:=by omega
 have n4:w.heap.size <= bm:=by omega
 rw [<-hbq, <-hbc] at BQ
 rw [<-hbc, <-hbm] at BC
 rw [<-hbm] at HI
 have B1' : Hid (Box w2 b1 #[.slice ap np cp,.int .i64 ar,.int .i64 ce,.slice ab nb cb]):=Lib.hid (by rw [hb1];exact B1.out)
 clear B1
 have B1:=B1'
 clear B1'
 have N:=Lib.hid (show bc ≠ bm/\bq ≠ bm/\b1 ≠ bm/\w.heap.size <= bm from ⟨n1,n2,n3,n4⟩)
 simp only [<-hbq]
 simp only [<-hbc]
 simp only [<-hbm]
 rw [show (Value.pointer (some ⟨w.heap.size,0,none⟩)) = .pointer (some ⟨b1,0,none⟩) by rw [hb1]]
 clear hbq hbc hbm hb1 n1 n2 n3 n4





 obtain ⟨lB1,cB1,fB1⟩:=B1.out
 obtain ⟨lBC,cBC,fBC⟩:=BC.out
 obtain ⟨lBQ,cBQ,fBQ⟩:=BQ.out
 go_wp2_with fail
 clear lB1 cB1 fB1 lBC cBC fBC lBQ cBQ fBQ
 have HFORM:Hid (Calls Tryz.prog 133 #[.pointer (some ⟨bc,0,none⟩)] w2 (StepR (formM f) bm w2)):=Lib.hid (chkFormed (f:=f) (ap:=ap) (cp:=cp) (ab:=ab) (cb:=cb) HW.out N.out.2.2.2 N.out.1 (by rw [<-HNP.out, <-HNB.out, <-HAR.out, <-HCE.out];exact BC.out) HI.out (by rw [<-HNP.out];exact HP.out) (by rw [<-HNB.out];exact HB.out))
 rw [HFM.out] at HFORM
 cases hfo:(formB f && idsF f)
 ·have HFO:=Lib.hid hfo
  simp only [hfo,Bool.false_eq_true,if_false] at HFORM
  clear hfo
  have HC2:Hid (c=2):=Lib.hid (by rw [HCH.out,HFO.out];rfl)
  refine HFORM.out.mono ?_
  rintro e w3 ⟨rfl,h3,t3⟩
  have T3:=Lib.hid (HW.out.trans (t3.below HW.out.size (fun x hx=>by simp at hx;subst hx;exact N.out.2.2.2)))
  clear h3 t3
  go_wp2
  go_ret2
  exact OpenR.bad T3.out (by rw [<-HC.out,HC2.out]) (by decide)
 ·have HFO:=Lib.hid hfo
  simp only [hfo,if_true] at HFORM
  clear hfo
  have HC2:Hid (c=usesE (valsF f) (usesF f)):=Lib.hid (by rw [HCH.out,HFO.out];rfl)
  refine HFORM.out.mono ?_
  rintro e w3 ⟨rfl,h3,t3⟩
  have T3:=Lib.hid t3
  replace HI:=Lib.hid (h3 _ rfl)
  replace HW:=Lib.hid (HW.out.trans (t3.below HW.out.size (fun x hx=>by simp at hx;subst hx;exact N.out.2.2.2)))
  replace B1:=Lib.hid (B1.out.turn t3 (by simpa using N.out.2.2.1))
  replace BC:=Lib.hid (BC.out.turn t3 (by simpa using N.out.1))
  replace BQ:=Lib.hid (BQ.out.turn t3 (by simpa using N.out.2.1))
  clear h3 t3 HFORM
  have HL0:=Lib.hid (⟨HI.out.lt,BC.out.lt,BQ.out.lt,HW.out.size⟩ : bm < w3.heap.size/\bc < w3.heap.size/\bq < w3.heap.size/\w.heap.size <= w3.heap.size)


  obtain ⟨lB1,cB1,fB1⟩:=B1.out
  obtain ⟨lBC,cBC,fBC⟩:=BC.out
  obtain ⟨lBQ,cBQ,fBQ⟩:=BQ.out
  go_upto_region 5 with (fail)
  have nBEB1:w3.heap.size ≠ b1:=fun e=>by have:=lB1;omega
  have nB1BE:b1 ≠ w3.heap.size:=fun e=>nBEB1 e.symm
  have nBEBC:w3.heap.size ≠ bc:=fun e=>by have:=lBC;omega
  have nBCBE:bc ≠ w3.heap.size:=fun e=>nBEBC e.symm
  have nBEBQ:w3.heap.size ≠ bq:=fun e=>by have:=lBQ;omega
  have nBQBE:bq ≠ w3.heap.size:=fun e=>nBEBQ e.symm
  have B1_:Box (w3.alloc (.cells #[.int .i64 0] 26)) (b1) #[.slice ap np cp,.int .i64 ar,.int .i64 ce,.slice ab nb cb]:=by simpa using (B1.out.alloc _)
  have BC_:Box (w3.alloc (.cells #[.int .i64 0] 26)) (bc) #[.slice ap np cp,.int .i64 ar,.int .i64 ce,.slice ab nb cb,.map (some bm)]:=by simpa using (BC.out.alloc _)
  have BQ_:Box (w3.alloc (.cells #[.int .i64 0] 26)) (bq) #[.pointer (some ⟨bc,0,none⟩)]:=by simpa using (BQ.out.alloc _)
  have BE_:Box (w3.alloc (.cells #[.int .i64 0] 26)) (w3.heap.size) #[.int .i64 0]:=by simpa using (Box.new w3 #[.int .i64 0] 26)
  have HI_:=(HI.out.alloc (.cells #[.int .i64 0] 26))
  have HW_:Below w.heap.size w (w3.alloc (.cells #[.int .i64 0] 26)):=(HW.out.alloc (by first | exact Nat.le_refl _ | exact HW.out.size | (simp only [World.size_alloc,World.size_setCell];have:=HW.out.size;omega)) _)
  clear lB1 cB1 fB1 lBC cBC fBC lBQ cBQ fBQ
  clear B1 BC BQ HI HW
  generalize (w3.alloc (.cells #[.int .i64 0] 26))=w4 at *
  have B1:=Lib.hid B1_
  clear B1_
  have BC:=Lib.hid BC_
  clear BC_
  have BQ:=Lib.hid BQ_
  clear BQ_
  have BE:=Lib.hid BE_
  clear BE_
  have HI:=Lib.hid HI_
  clear HI_
  have HW:=Lib.hid HW_
  clear HW_
  obtain ⟨lB1,cB1,fB1⟩:=B1.out
  obtain ⟨lBC,cBC,fBC⟩:=BC.out
  obtain ⟨lBQ,cBQ,fBQ⟩:=BQ.out
  obtain ⟨lBE,cBE,fBE⟩:=BE.out
  go_wp2_with fail
  clear lB1 cB1 fB1 lBC cBC fBC lBQ cBQ fBQ lBE cBE fBE
  have HEACH:Hid (Calls Tryz.prog 134 #[.agg #[.slice ap np cp,.int .i64 ar,.int .i64 ce,.slice ab nb cb],.func (.func 135) #[] #[.pointer (some ⟨bq,0,none⟩),.pointer (some ⟨w3.heap.size,0,none⟩)]] w4
    (EachR (usesF f) [w3.heap.size] (OpenI (valsF f) bc bm bq w3.heap.size (chk (.slice ap np cp) (.slice ab nb cb) ar ce bm)) w4)):=Lib.hid (by
   rw [HAR.out,HCE.out]
   refine irEach (w:=w) HW.out HNB.out HB.out (form_args (by have:=HFO.out;simp at this;exact this.1)) _ _ openEnters [w3.heap.size] (fun b hb=>by simp at hb;subst hb;exact ⟨HL0.out.2.2.2,BE.out.lt⟩) _ ?_ (fun us W W' h hb=>h.later hb) ?_
   ·refine ⟨HI.out, ?_,BQ.out,BE.out⟩
    rw [<-HAR.out, <-HCE.out];exact BC.out
   ·intro us u W h1 h2
    exact openAsk u ⟨by have:=HL0.out;omega,by have:=HL0.out;omega,by have:=HL0.out;omega⟩ h1)
  refine HEACH.out.mono ?_
  rintro e w5 ⟨rfl,hI5,hT5⟩
  obtain ⟨hi1,hi2,hi3,hi4⟩:=hI5
  rw [<-HC2.out] at hi4
  have HW5:=Lib.hid (HW.out.trans (hT5.below HW.out.size (fun x hx=>by simp at hx;subst hx;exact HL0.out.2.2.2)))
  have HI5:=Lib.hid hi1
  have BC5:=Lib.hid hi2
  have BQ5:=Lib.hid hi3
  have BE5:=Lib.hid hi4
  have e0:=hi4.at 0 (v:=.int .i64 c) rfl
  have e1:=hi3.at 0 (v:=.pointer (some ⟨bc,0,none⟩)) rfl
  have e2:=hi2.at 4 (v:=.map (some bm)) rfl
  clear hT5 hi1 hi2 hi3 hi4 HEACH
  cases hc0:(c == 0)
  ·have HC0:=Lib.hid hc0
   have hc1:(c != 0)=true:=by simp [bne,hc0]
   go_upto_region 7 with (fail)
   go_quiet (fail)
   go_wp2
   go_ret2
   exact OpenR.bad (below_drewN HW5.out _) HC.out.symm (by have:=HC0.out;simpa using this)
  ·have HC0:Hid (c=0):=Lib.hid (by simpa using hc0)
   have hc1:(c != 0)=false:=by simp [bne,hc0]
   go_wp2
   go_ret2
   exact OpenR.good HW5.out (by rw [<-HC.out,HC0.out]) HI5.out N.out.2.2.2
end Go.Proofs.YtgmhnepmkaonaaaGreat
namespace Go.Proofs.YtgmhnepmkaonaaaGreat
set_option linter.unusedSimpArgs false
set_option linter.unusedVariables false
open Go.RowKit
set_option maxHeartbeats 1600000 in
theorem irCheck {w:World} {v:Value} {f:FuncD} (hv:FuncV w v f):Calls Tryz.prog 80 #[v] w fun e w'=>e = .returned (.int .i64 (checkF f))/\Below w.heap.size w w':=by
 have HV:=Lib.hid hv
 obtain ⟨a,b,rfl,hp,ha,hc,hB⟩:=hv
 obtain ⟨ap,cp,rfl⟩:=hp.form
 obtain ⟨ab,cb,rfl⟩:=hB.form
 clear hp ha hc hB
 go_enter Tryz.func80,Tryz.ntmps80
 go_upto_region 1 with (fail)
 have B1:Hid (Box (w.alloc (.cells #[.slice ap f.params.length cp,.int .i64 f.arrays,.int .i64 f.cells,.slice ab f.blocks.length cb] 25)) (w.heap.size) #[.slice ap f.params.length cp,.int .i64 f.arrays,.int .i64 f.cells,.slice ab f.blocks.length cb]):=Lib.hid (by simpa using (Box.new w #[.slice ap f.params.length cp,.int .i64 f.arrays,.int .i64 f.cells,.slice ab f.blocks.length cb] 25))
 have HW:Hid (Below w.heap.size w (w.alloc (.cells #[.slice ap f.params.length cp,.int .i64 f.arrays,.int .i64 f.cells,.slice ab f.blocks.length cb] 25))):=Lib.hid ((Below.refl _ _).alloc (Nat.le_refl _) _)
 generalize (w.alloc (.cells #[.slice ap f.params.length cp,.int .i64 f.arrays,.int .i64 f.cells,.slice ab f.blocks.length cb] 25))=wv at *
 obtain ⟨lB1,cB1,fB1⟩:=B1.out
 go_wp2_with fail
 refine (irOpen (HV.out.below HW.out)).mono ?_
 rintro e w2 ⟨hb,m,rfl,_,_⟩
 have HB:=Lib.hid (HW.out.trans (hb.mono HW.out.size))
 clear hb
 go_wp2
 go_ret
 exact ⟨rfl,HB.out⟩
def sizeA (f:FuncD):Int:=if checkF f=0 then sizeF f else 0
end Go.Proofs.YtgmhnepmkaonaaaGreat
namespace Go.Proofs.YtgmhnepmkaonaaaGreat
set_option linter.unusedSimpArgs false
set_option linter.unusedVariables false
open Go.RowKit
theorem list_eq {xs ys:List Int} (hl:xs.length=ys.length) (h:∀ j,j < xs.length -> xs.getD j 0=ys.getD j 0):xs=ys:=by
 apply List.ext_getElem hl
 intro i h1 h2
 have:=h i h1
 simpa [List.getD_eq_getElem?_getD,h1,h2] using this
def simplest:FuncD:=⟨[],0,0,[⟨[],[⟨1,0,[],5⟩],⟨3,0,[],0⟩⟩]⟩
theorem ints_nil {W:World}:Ints W (.slice none 0 0) []:=⟨Row.nil,by simp⟩
theorem simplest_val {W:World} {bi bb:Nat} (hi:Box W bi #[.int .i64 1,.int .i64 0,.slice none 0 0,.int .i64 5]) (hb:Box W bb #[.slice none 0 0,.slice (some ⟨bi,0,none⟩) 1 1,.int .i64 3,.int .i64 0,.slice none 0 0,.int .i64 0]) :
  FuncV W (.agg #[.slice none 0 0,.int .i64 0,.int .i64 0,.slice (some ⟨bb,0,none⟩) 1 1]) simplest:=by
 refine ⟨_,_,rfl,ints_nil,⟨by decide,by decide⟩,⟨by decide,by decide⟩,_,Row.of_box (n:=1) (size:=6) hb rfl (by omega),fun j x hj => ?_⟩
 obtain rfl:j=0:=by have:=(List.getElem?_eq_some_iff.1 hj).1;simp [simplest] at this;omega
 simp [simplest] at hj
 subst hj
 refine ⟨_,_,_,rfl,SliceOf.nil,⟨_,Row.of_box (n:=1) (size:=4) hi rfl (by omega),fun j x hj => ?_⟩,_,rfl,ints_nil,⟨by decide,by decide⟩,⟨by decide,by decide⟩,by decide,by decide⟩
 obtain rfl:j=0:=by have:=(List.getElem?_eq_some_iff.1 hj).1;simp at this;omega
 simp at hj
 subst hj
 exact ⟨_,rfl,ints_nil,⟨by decide,by decide⟩,⟨by decide,by decide⟩,by decide,by decide⟩
theorem simplest_ok:checkF simplest=0/\sizeA simplest=2:=by
 constructor <;> decide
end Go.Proofs.YtgmhnepmkaonaaaGreat
namespace Go.Proofs.YtgmhnepmkaonaaaGreat
set_option linter.unusedSimpArgs false
set_option linter.unusedVariables false
open Go.RowKit
theorem FuncV.form {W:World} {v:Value} {f:FuncD} (hv:FuncV W v f):∃ ap cp ab cb,v = .agg #[.slice ap f.params.length cp,.int .i64 f.arrays,.int .i64 f.cells,.slice ab f.blocks.length cb]/\Ints W (.slice ap f.params.length cp) f.params/\In64 f.arrays/\In64 f.cells/\SliceOf BlockR 6 W (.slice ab f.blocks.length cb) f.blocks:=by
 obtain ⟨a,b,rfl,hp,ha,hc,hB⟩:=hv
 obtain ⟨ap,cp,rfl⟩:=hp.form
 obtain ⟨ab,cb,rfl⟩:=hB.form
 exact ⟨ap,cp,ab,cb,rfl,hp,ha,hc,hB⟩
theorem i64_add {x y:Int} (h:In64 (x+y)):IntKind.i64.wrap (x+y)=x+y:=by
 rw [i64_wrap];exact wrap_in h
end Go.Proofs.YtgmhnepmkaonaaaGreat
namespace Go.Proofs.YtgmhnepmkaonaaaGreat
set_option linter.unusedSimpArgs false
set_option linter.unusedVariables false
open Go.RowKit
structure UseD where
 id:Int
 typ:Int
 blk:Int
 pos:Int
 src:Int
 deriving DecidableEq,Inhabited
def uxP (i:Nat) (p:PhiD):List UseD:=(p.vals.zip p.src).map fun vs=>⟨vs.1,p.typ,i, -1,vs.2⟩
def uxI (i:Nat) (xk:InstrD × Nat):List UseD:=(xk.1.args.zip (shp0 xk.1.op).args).map fun at_=>⟨at_.1,at_.2,i,xk.2,0⟩
def uxT (i:Nat) (b:BlockD):List UseD:=if b.term.op=2 then [⟨b.term.val,2,i,b.code.length,0⟩] else if b.term.op=3 then [⟨b.term.val,0,i,b.code.length,0⟩] else []
def uxB (bi:BlockD × Nat):List UseD:=bi.1.phis.flatMap (uxP bi.2) ++ bi.1.code.zipIdx.flatMap (uxI bi.2) ++ uxT bi.2 bi.1
def uxF (f:FuncD):List UseD:=f.blocks.zipIdx.flatMap uxB
structure Even (f:FuncD):Prop where
 phi:∀ b ∈ f.blocks, ∀ p ∈ b.phis,p.src.length=p.vals.length/\p.vals.length <= 512
 args:∀ b ∈ f.blocks, ∀ x ∈ b.code,x.args.length=(shp0 x.op).args.length
 size:sizeF f <= 4096
 len:f.blocks.length <= 512
theorem holes (n:Nat):∀ l:List Int,l.Nodup -> (∀ x ∈ l,0 <= x/\x < (n:Int)) -> l.length <= n:=by
 induction n with
 | zero =>
  intro l _ h
  cases l with
  | nil=>simp
  | cons x l=>have:=h x (by simp);omega
 | succ n ih =>
  intro l hnd h
  by_cases hm:(n:Int) ∈ l
  ·have h1:=ih (l.erase (n:Int)) (hnd.erase _) (fun x hx=>by
    have h2:=(hnd.mem_erase_iff).1 hx
    have h3:=h x h2.2
    have h4:=h2.1
    omega)
   rw [List.length_erase_of_mem hm] at h1
   omega
  ·have h1:=ih l hnd (fun x hx=>by
    have h3:=h x hx
    have h4:x ≠ n:=fun e=>hm (e ▸ hx)
    omega)
   omega
theorem even_of {f:FuncD} (h:formB f=true):Even f:=by
 have h0:=h
 unfold formB headOk at h0
 simp only [Bool.and_eq_true,decide_eq_true_eq,List.all_eq_true] at h0
 have hblk:∀ b ∈ f.blocks, ∃ j,blockOk f.blocks.length f.arrays f.cells (b,j)=true:=fun b hb=>by
  obtain ⟨j,hj,rfl⟩:=List.getElem_of_mem hb
  exact ⟨j,h0.2 (f.blocks[j],j) (by rw [List.mem_iff_getElem?];exact ⟨j,by simp [hj]⟩)⟩
 refine ⟨fun b hb p hp => ?_,fun b hb x hx => ?_,h0.1.1.2,h0.1.1.1.2⟩
 ·obtain ⟨j,h1⟩:=hblk b hb
  unfold blockOk at h1
  simp only [Bool.and_eq_true,List.all_eq_true] at h1
  have h2:=h1.1.1.2 p hp
  unfold phiOk at h2
  simp only [Bool.and_eq_true,beq_iff_eq,List.all_eq_true,decide_eq_true_eq] at h2
  refine ⟨h2.1.1.2, ?_⟩
  have h3:=holes f.blocks.length p.src h2.2 (fun x hx=>by have:=h2.1.2 x hx;unfold numB at this;simpa using this)
  have h4:=h0.1.1.1.2
  have h5:=h2.1.1.2
  omega
 ·obtain ⟨j,h1⟩:=hblk b hb
  unfold blockOk at h1
  simp only [Bool.and_eq_true,List.all_eq_true] at h1
  have h2:=h1.1.2 x hx
  unfold instrOk at h2
  simp only [Bool.and_eq_true,beq_iff_eq] at h2
  exact h2.1.1.2
def UseD.pair (u:UseD):Int × Int:=(u.id,u.typ)
theorem ux_pairs {f:FuncD} (he:Even f):(uxF f).map UseD.pair=usesF f:=by
 have hB:∀ b ∈ f.blocks, ∀ j,(uxB (b,j)).map UseD.pair=usesB b:=by
  intro b hb j
  unfold uxB usesB
  rw [List.map_append,List.map_append]
  congr 1
  ·congr 1
   ·simp only
    rw [List.map_flatMap]
    have:∀ l:List PhiD,(∀ p ∈ l,p.src.length=p.vals.length) -> l.flatMap (fun p=>(uxP j p).map UseD.pair)=l.flatMap usesP:=by
     intro l
     induction l with
     | nil=>intro _;rfl
     | cons p l ih =>
      intro h
      rw [List.flatMap_cons,List.flatMap_cons,ih fun q hq=>h q (by simp [hq])]
      congr 1
      unfold uxP usesP
      rw [List.map_map]
      have h1:=h p (by simp)
      have h2:(p.vals.zip p.src).map Prod.fst=p.vals:=List.map_fst_zip (by omega)
      have h3:(p.vals.zip p.src).map (UseD.pair ∘ fun vs=>⟨vs.1,p.typ,j, -1,vs.2⟩)=((p.vals.zip p.src).map Prod.fst).map fun v=>(v,p.typ):=by rw [List.map_map];rfl
      rw [h3,h2]
    exact this b.phis fun p hp=>(he.phi b hb p hp).1
   ·simp only
    rw [List.map_flatMap]
    have:∀ l:List (InstrD × Nat),l.flatMap (fun x=>(uxI j x).map UseD.pair)=(l.map (·.1)).flatMap usesI:=by
     intro l
     induction l with
     | nil=>rfl
     | cons x l ih =>
      rw [List.flatMap_cons,List.map_cons,List.flatMap_cons,ih]
      congr 1
      unfold uxI usesI
      rw [List.map_map]
      have:(UseD.pair ∘ fun at_:Int × Int=>(⟨at_.1,at_.2,j,x.2,0⟩ : UseD))=id:=rfl
      rw [this,List.map_id]
    rw [this,List.zipIdx_map_fst]
  ·unfold uxT usesT
   simp only
   split
   ·rfl
   ·split <;> rfl
 unfold uxF usesF
 rw [List.map_flatMap]
 have:∀ l:List (BlockD × Nat),(∀ x ∈ l,x.1 ∈ f.blocks) -> l.flatMap (fun x=>(uxB x).map UseD.pair)=(l.map (·.1)).flatMap usesB:=by
  intro l
  induction l with
  | nil=>intro _;rfl
  | cons x l ih =>
   intro h
   rw [List.flatMap_cons,List.map_cons,List.flatMap_cons,ih fun y hy=>h y (by simp [hy])]
   congr 1
   exact hB x.1 (h x (by simp)) x.2
 rw [this _ (fun x hx=>by obtain ⟨i,hi,rfl⟩:=List.getElem_of_mem hx;simp),List.zipIdx_map_fst]
end Go.Proofs.YtgmhnepmkaonaaaGreat
namespace Go.Proofs.YtgmhnepmkaonaaaGreat
set_option linter.unusedSimpArgs false
set_option linter.unusedVariables false
open Go.RowKit
theorem New.box {T:TypeId} {w w' : World} {u:Value} {xs:List Int} (h:New T w w' u xs) (hp:0 < xs.length):∃ g cap A,u = .slice (some ⟨g,0,none⟩) xs.length cap/\w.heap.size <= g/\Box w' g A /\ ∀ j,j < xs.length -> A[j]? = some (.int .i64 (xs.getD j 0)):=by
 rcases h.own.2 with ⟨_,h2⟩ | ⟨g,cap,cur,hv,hb,hh,h1,h2,h3,h4⟩
 ·omega
 ·refine ⟨g,cap,cur,hv,hb,⟨(Array.getElem?_eq_some_iff.1 hh).1,fun o => ?_,fun o => ?_⟩,fun j hj => ?_⟩
  ·simp only [World.cell?,hh];simp
  ·simp only [World.frozen?,hh];simp
  ·have e:=congrArg (fun l=>l[j]?) h4
   simp only [List.getElem?_map,list_at xs j hj,Option.map_some] at e
   rw [List.getElem?_take] at e
   split at e
   ·simpa using e
   ·cases e
end Go.Proofs.YtgmhnepmkaonaaaGreat
namespace Go.Proofs.YtgmhnepmkaonaaaGreat
set_option linter.unusedSimpArgs false
set_option linter.unusedVariables false
open Go.RowKit
theorem Own.put {W:World} {base:Nat} {bs:List Nat} {e:TypeId} {g n cap:Nat} {cs:List Value} (h:Own W base bs e 1 (.slice (some ⟨g,0,none⟩) n cap) n cs) {i:Nat} (hi:i < n) (u:Value) :
  Own (W.setCell ⟨g,i,none⟩ u) base bs e 1 (.slice (some ⟨g,0,none⟩) n cap) n (cs.set i u):=by
 refine ⟨⟨by rw [List.length_set];exact h.row.1, ?_⟩,h.free⟩
 rcases h.row.2 with ⟨h2,_⟩ | ⟨g',cap',cur,hv,hb,hh,h1,h2,h3,h4⟩
 ·cases h2
 ·cases hv
  refine .inr ⟨g,cap,cur.setIfInBounds i u,rfl,hb, ?_,h1,h2,by simpa using h3, ?_⟩
  ·simp [World.setCell,Array.getElem?_modify,hh]
  ·rw [<-h4]
   simp only [Array.toList_setIfInBounds]
   rw [List.take_set]
theorem Own.cells {W:World} {base:Nat} {bs:List Nat} {e:TypeId} {v:Value} {n:Nat} {cs:List Value} (h:Own W base bs e 1 v n cs) (hn:0 < n):∃ g cap,v = .slice (some ⟨g,0,none⟩) n cap/\g ∉ bs/\base <= g/\g < W.heap.size/\n <= cap/\cap <= 9223372036854775807/\(∀ i x,cs[i]? = some x -> W.cell? ⟨g,i,none⟩=some x) /\ ∀ o,W.frozen? ⟨g,o,none⟩=false:=by
 rcases h.row.2 with ⟨_,h2⟩ | ⟨g,cap,cur,hv,hb,hh,h1,h2,h3,h4⟩
 ·omega
 ·refine ⟨g,cap,hv,h.free g (by rw [hv];rfl),hb,(Array.getElem?_eq_some_iff.1 hh).1,h1,by unfold maxLen at h2;omega,fun i x hx => ?_,fun o => ?_⟩
  ·simp only [World.cell?,hh]
   rw [<-h4,List.getElem?_take] at hx
   split at hx
   ·simpa using hx
   ·cases hx
  ·simp only [World.frozen?,hh];simp
theorem Own.ints {W:World} {base:Nat} {bs:List Nat} {e:TypeId} {v:Value} {xs:List Int} (h:Own W base bs e 1 v xs.length (xs.map (.int .i64))) (hn:xs.length <= 17592186044416) (hx:∀ x ∈ xs,In64 x):Ints W v xs:=Ints.of_own h.row hn hx
def Rise (L:List Int):Prop:=L.Pairwise (· < ·)
theorem Rise.lt {L:List Int} (h:Rise L) {i j:Nat} {x y:Int} (hi:L[i]? = some x) (hj:L[j]? = some y) (hij:i < j):x < y:=by
 obtain ⟨hi1,rfl⟩:=List.getElem?_eq_some_iff.1 hi
 obtain ⟨hj1,rfl⟩:=List.getElem?_eq_some_iff.1 hj
 exact (List.pairwise_iff_getElem.1 h) i j hi1 hj1 hij
end Go.Proofs.YtgmhnepmkaonaaaGreat
namespace Go.Proofs.YtgmhnepmkaonaaaGreat
set_option linter.unusedSimpArgs false
set_option linter.unusedVariables false
open Go.RowKit
theorem Ints.later {W W' : World} {v:Value} {xs:List Int} (h:Ints W v xs) (hb:Below W.heap.size W W'):Ints W' v xs:=h.below hb
theorem Row.later {W W' : World} {v:Value} {n size:Nat} {cs:List Value} (h:Row W v n size cs) (hb:Below W.heap.size W W'):Row W' v n size cs:=h.below hb
end Go.Proofs.YtgmhnepmkaonaaaGreat
