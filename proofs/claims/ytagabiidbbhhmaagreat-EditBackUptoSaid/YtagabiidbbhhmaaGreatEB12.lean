/- Part 12. -/
import Derived.Test.YtagabiidbbhhmaaGreatEB11
namespace Go.Proofs.YtagabiidbbhhmaaGreat
set_option maxHeartbeats 6400000
set_option linter.all false
open Go.RowKit
theorem Turn.setCell {w:World} {b:Nat} (o:Nat) (v:Value):Turn [b] w (w.setCell ⟨b,o,none⟩ v) :=
 ⟨rfl,rfl,rfl,by simp [World.setCell],fun k hk hn=>Below.heap_setCell w ⟨b,o,none⟩ v k (by simpa using hn)⟩
theorem IMap.other {w:World} {b:Nat} {m:List (Int × Value)} (h:IMap w b m) {p:Addr} (v:Value) (hp:b ≠ p.block):IMap (w.setCell p v) b m:=h.keep (Below.heap_setCell w p v b hp)
structure OpenI (T:List (Int × Int)) (bc bm bq be:Nat) (A:Array Value) (us:List (Int × Int)) (W:World):Prop where
 map:IMap W bm (encT T)
 chk:Box W bc A
 ptr:Box W bq #[.pointer (some ⟨bc,0,none⟩)]
 err:Box W be #[.int .i64 (kI T us)]
theorem OpenI.later {T:List (Int × Int)} {bc bm bq be:Nat} {A:Array Value} {us:List (Int × Int)} {W W' : World} (h:OpenI T bc bm bq be A us W) (hb:Below W.heap.size W W'):OpenI T bc bm bq be A us W' :=
 ⟨h.map.later hb,h.chk.later hb,h.ptr.later hb,h.err.later hb⟩
theorem OpenI.set {T:List (Int × Int)} {bc bm bq be:Nat} {A:Array Value} {us:List (Int × Int)} {W:World} (h:OpenI T bc bm bq be A us W) (u:Int × Int) (x:Int) (hx:kI T (us ++ [u])=x) (hne:bm ≠ be/\bc ≠ be/\bq ≠ be) :
  OpenI T bc bm bq be A (us ++ [u]) (W.setCell ⟨be,0,none⟩ (.int .i64 x)) :=
 ⟨h.map.other _ hne.1,h.chk.other _ hne.2.1,h.ptr.other _ hne.2.2,by rw [hx];simpa using h.err.set 0 (.int .i64 x)⟩
theorem OpenI.same {T:List (Int × Int)} {bc bm bq be:Nat} {A:Array Value} {us:List (Int × Int)} {W:World} (h:OpenI T bc bm bq be A us W) (u:Int × Int) (hx:kI T (us ++ [u])=kI T us) :
  OpenI T bc bm bq be A (us ++ [u]) W:=⟨h.map,h.chk,h.ptr,by rw [hx];exact h.err⟩
theorem aDF {W:World} {T:List (Int × Int)} {bc bm bq be:Nat} {vp vb:Value} {ar ce:Int} {us:List (Int × Int)} (u:Int × Int) (hne:bm ≠ be/\bc ≠ be/\bq ≠ be) (h:OpenI T bc bm bq be (chk vp vb ar ce bm) us W) :
  Calls Tryz.prog 138 #[.int .i64 u.1,.int .i64 u.2,.pointer (some ⟨bq,0,none⟩),.pointer (some ⟨be,0,none⟩)] W fun e W'=>e = .returned (.tuple #[])/\OpenI T bc bm bq be (chk vp vb ar ce bm) (us ++ [u]) W' /\ Turn [be] W W':=by
 have H:=h! h
 have HNE:=h! hne
 have HU:=h! (wB T us u)
 obtain ⟨id,typ⟩:=u
 simp only at *
 have hq:=h.ptr.at 0 rfl
 have h4:=h.chk.at 4 (v:=.map (some bm)) rfl
 have he:=h.err
 have HI:=h! h.map
 have HMG:=h! (jF T id)
 obtain ⟨x,hx⟩ : ∃ x,x=kI T us:=⟨_,rfl⟩
 rw [<-hx] at he HU
 have HX:=h! hx
 obtain ⟨le,hce,hfe⟩:=he
 clear h hne hx
 cases hty:tyOf T id with
 | none =>
  rw [hty] at HMG
  have HU2:Hid (kI T (us ++ [(id,typ)])=6):=h! (by rw [HU.out];unfold useE;simp only [hty])
  clear hty
  go_enter Tryz.func138,Tryz.ntmps138
  go_wp2_with (at_lookup;refine fK (q:=.i64) (z:=.int .i64 0) (b:=bm) (mm:=encT T) (y:=id) rfl _ _ _ rfl Tryz.underlying93 Tryz.underlying3 (gP _) rfl HI.out rfl ?_;rw [HMG.out])
  exact bodyPost_end (v:=.tuple #[]) (by simp [results,Tryz.results138,go_sem, *]) rfl ⟨rfl,H.out.set _ 6 HU2.out HNE.out,Turn.setCell _ _⟩
 | some t =>
  rw [hty] at HMG
  have HU2:Hid (kI T (us ++ [(id,typ)])=if typ ≠ 0/\t ≠ typ/\x=0 then 3 else x):=h! (by rw [HU.out];unfold useE;simp only [hty])
  clear hty
  cases h1:(typ != 0) <;> cases h2:(t != typ) <;> cases h3:(x == 0)
  all_goals
   have H1:=h! h1
   have H2:=h! h2
   have H3:=h! h3
   go_enter Tryz.func138,Tryz.ntmps138
   go_wp2_with (at_lookup;refine fK (q:=.i64) (z:=.int .i64 0) (b:=bm) (mm:=encT T) (y:=id) rfl _ _ _ rfl Tryz.underlying93 Tryz.underlying3 (gP _) rfl HI.out rfl ?_;rw [HMG.out])
   first
    | exact bodyPost_end (v:=.tuple #[]) (by simp [results,Tryz.results138,go_sem, *]) rfl ⟨rfl,H.out.set _ 3 (by rw [HU2.out,if_pos];have e1:=H1.out;have e2:=H2.out;have e3:=H3.out;simp at e1 e2 e3;exact ⟨e1,e2,e3⟩) HNE.out,Turn.setCell _ _⟩
    | exact bodyPost_end (v:=.tuple #[]) (by simp [results,Tryz.results138,go_sem, *]) rfl ⟨rfl,H.out.same _ (by rw [HU2.out, <-HX.out,if_neg];have e1:=H1.out;have e2:=H2.out;have e3:=H3.out;simp at e1 e2 e3;rintro ⟨q1,q2,q3⟩;simp_all),Turn.refl _ _⟩
theorem vW:Enters Tryz.prog 138:=enters_of Tryz.func138 (by kernel_rfl) rfl
theorem yV {f:FuncD} (h:gS f=true):∀ b ∈ f.blocks, ∀ x ∈ b.code,x.args.length <= (shp0 x.op).args.length:=by
 intro b hb x hx
 unfold gS at h
 simp only [aK,bB] at h
 obtain ⟨j,hj,rfl⟩:=dM hb
 have h1:=h.2 (f.blocks[j],j) (by rw [bJ];exact ⟨j,by simp [hj]⟩)
 unfold fX at h1
 simp only [aK,bB] at h1
 have h2:=h1.1.2 x hx
 unfold fW at h2
 simp only [aK,beq_iff_eq] at h2
 exact Nat.le_of_eq h2.1.1.2
def qV (f:FuncD) (w:World) (e:Ending) (w' : World):Prop :=
 Below w.heap.size w w' /\ ∃ m,e = .returned (.tuple #[.map m,.int .i64 (eS f)])/\(eS f=0 -> ∃ bm,m=some bm/\IMap w' bm (encT (eQ f))/\w.heap.size <= bm)/\(eS f ≠ 0 -> m=none)
theorem qV.bad {f:FuncD} {w w' : World} {c:Int} (hb:Below w.heap.size w w') (hc:eS f=c) (h0:c ≠ 0):qV f w (.returned (.tuple #[.map none,.int .i64 c])) w':=by
 subst hc;exact ⟨hb,none,rfl,fun h=>absurd h h0,fun _=>rfl⟩
theorem qV.good {f:FuncD} {w w' : World} {bm:Nat} (hb:Below w.heap.size w w') (hc:eS f=0) (hm:IMap w' bm (encT (eQ f))) (hl:w.heap.size <= bm):qV f w (.returned (.tuple #[.map (some bm),.int .i64 0])) w' :=
 ⟨hb,some bm,by rw [hc],fun _=>⟨bm,rfl,hm,hl⟩,fun h=>absurd hc h⟩
theorem aCX {w:World} {v:Value} {f:FuncD} (hv:fJ w v f):Calls Tryz.prog 85 #[v] w (qV f w):=by
 obtain ⟨a,b,rfl,hp,ha,hc,hB⟩:=hv
 obtain ⟨ap,cp,rfl⟩:=hp.form
 obtain ⟨ab,cb,rfl⟩:=hB.form
 have HP:=h! hp
 have HB:=h! hB
 have HCH:Hid (eS f=if gS f && idsF f then kI (eQ f) (nE f) else 2):=h! rfl
 have HFM:=h! (aBU f)
 obtain ⟨c,hcc⟩ : ∃ c,c=eS f:=⟨_,rfl⟩
 rw [<-hcc] at HCH
 have HC:=h! hcc
 have HNP:Hid (f.params.length=f.params.length):=h! rfl
 clear hp hB ha hc hcc HNP
 obtain ⟨np,hnp⟩ : ∃ np,np=f.params.length:=⟨_,rfl⟩
 obtain ⟨nb,hnb⟩ : ∃ nb,nb=f.blocks.length:=⟨_,rfl⟩
 obtain ⟨ar,har⟩ : ∃ ar,ar=f.arrays:=⟨_,rfl⟩
 obtain ⟨ce,hce⟩ : ∃ ce,ce=f.cells:=⟨_,rfl⟩
 rw [<-hnp] at HP
 rw [<-hnb] at HB
 rw [<-hnp, <-hnb, <-har, <-hce]
 have HNP:=h! hnp
 have HNB:=h! hnb
 have HAR:=h! har
 have HCE:=h! hce
 clear hnp hnb har hce
 have hmm:=@run_makeMap Tryz.prog
 go_enter Tryz.func85,Tryz.ntmps85
 go_upto_region 2 with (fail)
 clear hmm
 have HI:Hid (IMap ((((w.alloc (.cells #[.slice ap np cp,.int .i64 ar,.int .i64 ce,.slice ab nb cb] 25)).alloc (.map #[] 0)).alloc (.cells #[.slice ap np cp,.int .i64 ar,.int .i64 ce,.slice ab nb cb,.map (some (w.heap.size+1))] 203)).alloc (.cells #[.pointer (some ⟨w.heap.size+1+1,0,none⟩)] 201)) (w.heap.size+1) []):=h! (by
  have h:=((IMap.new (w.alloc (.cells #[.slice ap np cp,.int .i64 ar,.int .i64 ce,.slice ab nb cb] 25))).alloc (.cells #[.slice ap np cp,.int .i64 ar,.int .i64 ce,.slice ab nb cb,.map (some (w.heap.size+1))] 203)).alloc (.cells #[.pointer (some ⟨w.heap.size+1+1,0,none⟩)] 201)
  simpa using h)
 have B1:Hid (Box ((((w.alloc (.cells #[.slice ap np cp,.int .i64 ar,.int .i64 ce,.slice ab nb cb] 25)).alloc (.map #[] 0)).alloc (.cells #[.slice ap np cp,.int .i64 ar,.int .i64 ce,.slice ab nb cb,.map (some (w.heap.size+1))] 203)).alloc (.cells #[.pointer (some ⟨w.heap.size+1+1,0,none⟩)] 201)) (w.heap.size) #[.slice ap np cp,.int .i64 ar,.int .i64 ce,.slice ab nb cb]):=h! ((((Box.new _ _ _).alloc _).alloc _).alloc _)
 have BC:Hid (Box ((((w.alloc (.cells #[.slice ap np cp,.int .i64 ar,.int .i64 ce,.slice ab nb cb] 25)).alloc (.map #[] 0)).alloc (.cells #[.slice ap np cp,.int .i64 ar,.int .i64 ce,.slice ab nb cb,.map (some (w.heap.size+1))] 203)).alloc (.cells #[.pointer (some ⟨w.heap.size+1+1,0,none⟩)] 201)) (w.heap.size+1+1) #[.slice ap np cp,.int .i64 ar,.int .i64 ce,.slice ab nb cb,.map (some (w.heap.size+1))]):=h! (by
  have h:=(Box.new ((w.alloc (.cells #[.slice ap np cp,.int .i64 ar,.int .i64 ce,.slice ab nb cb] 25)).alloc (.map #[] 0)) #[.slice ap np cp,.int .i64 ar,.int .i64 ce,.slice ab nb cb,.map (some (w.heap.size+1))] 203).alloc (.cells #[.pointer (some ⟨w.heap.size+1+1,0,none⟩)] 201)
  simpa using h)
 have BQ:Hid (Box ((((w.alloc (.cells #[.slice ap np cp,.int .i64 ar,.int .i64 ce,.slice ab nb cb] 25)).alloc (.map #[] 0)).alloc (.cells #[.slice ap np cp,.int .i64 ar,.int .i64 ce,.slice ab nb cb,.map (some (w.heap.size+1))] 203)).alloc (.cells #[.pointer (some ⟨w.heap.size+1+1,0,none⟩)] 201)) (w.heap.size+1+1+1) #[.pointer (some ⟨w.heap.size+1+1,0,none⟩)]):=h! (by
  have h:=Box.new (((w.alloc (.cells #[.slice ap np cp,.int .i64 ar,.int .i64 ce,.slice ab nb cb] 25)).alloc (.map #[] 0)).alloc (.cells #[.slice ap np cp,.int .i64 ar,.int .i64 ce,.slice ab nb cb,.map (some (w.heap.size+1))] 203)) #[.pointer (some ⟨w.heap.size+1+1,0,none⟩)] 201
  simpa using h)
 have HW:Hid (Below w.heap.size w ((((w.alloc (.cells #[.slice ap np cp,.int .i64 ar,.int .i64 ce,.slice ab nb cb] 25)).alloc (.map #[] 0)).alloc (.cells #[.slice ap np cp,.int .i64 ar,.int .i64 ce,.slice ab nb cb,.map (some (w.heap.size+1))] 203)).alloc (.cells #[.pointer (some ⟨w.heap.size+1+1,0,none⟩)] 201))):=h! (((((Below.refl _ _).alloc (aA _) _).alloc (by simp) _).alloc (by simp;omega) _).alloc (by simp;omega) _)
 generalize ((((w.alloc (.cells #[.slice ap np cp,.int .i64 ar,.int .i64 ce,.slice ab nb cb] 25)).alloc (.map #[] 0)).alloc (.cells #[.slice ap np cp,.int .i64 ar,.int .i64 ce,.slice ab nb cb,.map (some (w.heap.size+1))] 203)).alloc (.cells #[.pointer (some ⟨w.heap.size+1+1,0,none⟩)] 201))=w2 at *
 obtain ⟨bm,hbm⟩ : ∃ bm,bm=w.heap.size+1:=⟨_,rfl⟩
 obtain ⟨bc,hbc⟩ : ∃ bc,bc=w.heap.size+1+1:=⟨_,rfl⟩
 obtain ⟨bq,hbq⟩ : ∃ bq,bq=w.heap.size+1+1+1:=⟨_,rfl⟩
 obtain ⟨b1,hb1⟩ : ∃ b1,b1=w.heap.size:=⟨_,rfl⟩
 have n1:bc ≠ bm:=by omega
 have n2:bq ≠ bm:=by omega
 have n3:b1 ≠ bm:=by omega
 have n4:w.heap.size <= bm:=by omega
 rw [<-hbq, <-hbc] at BQ
 rw [<-hbc, <-hbm] at BC
 rw [<-hbm] at HI
 have B1' : Hid (Box w2 b1 #[.slice ap np cp,.int .i64 ar,.int .i64 ce,.slice ab nb cb]):=h! (by rw [hb1];exact B1.out)
 clear B1
 have B1:=B1'
 clear B1'
 have N:=h! (show bc ≠ bm/\bq ≠ bm/\b1 ≠ bm/\w.heap.size <= bm from ⟨n1,n2,n3,n4⟩)
 simp only [<-hbq]
 simp only [<-hbc]
 simp only [<-hbm]
 rw [show (Value.pointer (some ⟨w.heap.size,0,none⟩)) = .pointer (some ⟨b1,0,none⟩) by rw [hb1]]
 clear hbq hbc hbm hb1 n1 n2 n3 n4
 obtain ⟨lB1,cB1,fB1⟩:=B1.out
 obtain ⟨lBC,cBC,fBC⟩:=BC.out
 obtain ⟨lBQ,cBQ,fBQ⟩:=BQ.out
 go_wp2_with fail
 clear lB1 cB1 fB1 lBC cBC fBC lBQ cBQ fBQ
 have HFORM:Hid (Calls Tryz.prog 136 #[.pointer (some ⟨bc,0,none⟩)] w2 (iI (qZ f) bm w2)):=h! (zK (f:=f) (ap:=ap) (cp:=cp) (ab:=ab) (cb:=cb) HW.out N.out.2.2.2 N.out.1 (by rw [<-HNP.out, <-HNB.out, <-HAR.out, <-HCE.out];exact BC.out) HI.out (by rw [<-HNP.out];exact HP.out) (by rw [<-HNB.out];exact HB.out))
 rw [HFM.out] at HFORM
 cases hfo:(gS f && idsF f)
 ·have HFO:=h! hfo
  simp only [hfo,bM,if_false] at HFORM
  clear hfo
  have HC2:Hid (c=2):=h! (by rw [HCH.out,HFO.out];rfl)
  refine HFORM.out.mono ?_
  rintro e w3 ⟨rfl,h3,t3⟩
  have T3:=h! (HW.out.trans (t3.below HW.out.size (fun x hx=>by simp at hx;subst hx;exact N.out.2.2.2)))
  clear h3 t3
  go_wp2
  go_ret2
  exact qV.bad T3.out (by rw [<-HC.out,HC2.out]) (by decide)
 have HFO:=h! hfo
 simp only [hfo,if_true] at HFORM
 clear hfo
 have HC2:Hid (c=kI (eQ f) (nE f)):=h! (by rw [HCH.out,HFO.out];rfl)
 refine HFORM.out.mono ?_
 rintro e w3 ⟨rfl,h3,t3⟩
 have T3:=h! t3
 replace HI:=h! (h3 _ rfl)
 replace HW:=h! (HW.out.trans (t3.below HW.out.size (fun x hx=>by simp at hx;subst hx;exact N.out.2.2.2)))
 replace B1:=h! (B1.out.turn t3 (by simpa using N.out.2.2.1))
 replace BC:=h! (BC.out.turn t3 (by simpa using N.out.1))
 replace BQ:=h! (BQ.out.turn t3 (by simpa using N.out.2.1))
 clear h3 t3 HFORM
 have HL0:=h! (⟨HI.out.lt,BC.out.lt,BQ.out.lt,HW.out.size⟩ : bm < w3.heap.size/\bc < w3.heap.size/\bq < w3.heap.size/\w.heap.size <= w3.heap.size)
 obtain ⟨lB1,cB1,fB1⟩:=B1.out
 obtain ⟨lBC,cBC,fBC⟩:=BC.out
 obtain ⟨lBQ,cBQ,fBQ⟩:=BQ.out
 go_upto_region 5 with (fail)
 have nBEB1:w3.heap.size ≠ b1:=fun e=>by have:=lB1;omega
 have nB1BE:b1 ≠ w3.heap.size:=fun e=>nBEB1 e.symm
 have nBEBC:w3.heap.size ≠ bc:=fun e=>by have:=lBC;omega
 have nBCBE:bc ≠ w3.heap.size:=fun e=>nBEBC e.symm
 have nBEBQ:w3.heap.size ≠ bq:=fun e=>by have:=lBQ;omega
 have nBQBE:bq ≠ w3.heap.size:=fun e=>nBEBQ e.symm
 clear lB1 cB1 fB1 lBC cBC fBC lBQ cBQ fBQ
 have hA_:=(Below.refl w3.heap.size w3).alloc (aA _) (.cells #[.int .i64 0] 26)
 replace B1:=h! (B1.out.later hA_)
 replace BC:=h! (BC.out.later hA_)
 replace BQ:=h! (BQ.out.later hA_)
 replace HI:=h! (HI.out.later hA_)
 replace HW:=h! (HW.out.trans (hA_.mono HW.out.size))
 clear hA_
 have BE:=h! (Box.new w3 #[.int .i64 0] 26)
 generalize w3.alloc (.cells #[.int .i64 0] 26)=w4 at *
 obtain ⟨lB1,cB1,fB1⟩:=B1.out
 obtain ⟨lBC,cBC,fBC⟩:=BC.out
 obtain ⟨lBQ,cBQ,fBQ⟩:=BQ.out
 obtain ⟨lBE,cBE,fBE⟩:=BE.out
 go_wp2_with fail
 clear lB1 cB1 fB1 lBC cBC fBC lBQ cBQ fBQ lBE cBE fBE
 have HEACH:Hid (Calls Tryz.prog 137 #[.agg #[.slice ap np cp,.int .i64 ar,.int .i64 ce,.slice ab nb cb],.func (.func 138) #[] #[.pointer (some ⟨bq,0,none⟩),.pointer (some ⟨w3.heap.size,0,none⟩)]] w4
   (aE6 (nE f) [w3.heap.size] (OpenI (eQ f) bc bm bq w3.heap.size (chk (.slice ap np cp) (.slice ab nb cb) ar ce bm)) w4)):=h! (by
  rw [HAR.out,HCE.out]
  refine aE7 (w:=w) HW.out HNB.out HB.out (yV (by have:=HFO.out;simp at this;exact this.1)) _ _ vW [w3.heap.size] (fun b hb=>by simp at hb;subst hb;exact ⟨HL0.out.2.2.2,BE.out.lt⟩) _ ?_ (fun us W W' h hb=>h.later hb) ?_
  ·refine ⟨HI.out, ?_,BQ.out,BE.out⟩
   rw [<-HAR.out, <-HCE.out];exact BC.out
  ·intro us u W h1 h2
   exact aDF u ⟨by have:=HL0.out;omega,by have:=HL0.out;omega,by have:=HL0.out;omega⟩ h1)
 refine HEACH.out.mono ?_
 rintro e w5 ⟨rfl,hI5,hT5⟩
 obtain ⟨hi1,hi2,hi3,hi4⟩:=hI5
 rw [<-HC2.out] at hi4
 have HW5:=h! (HW.out.trans (hT5.below HW.out.size (fun x hx=>by simp at hx;subst hx;exact HL0.out.2.2.2)))
 have HI5:=h! hi1
 have BC5:=h! hi2
 have BQ5:=h! hi3
 have BE5:=h! hi4
 have e0:=hi4.at 0 (v:=.int .i64 c) rfl
 have e1:=hi3.at 0 (v:=.pointer (some ⟨bc,0,none⟩)) rfl
 have e2:=hi2.at 4 (v:=.map (some bm)) rfl
 clear hT5 hi1 hi2 hi3 hi4 HEACH
 cases hc0:(c == 0)
 ·have HC0:=h! hc0
  have hc1:(c != 0)=true:=by simp [bne,hc0]
  go_upto_region 7 with (fail)
  go_quiet (fail)
  go_wp2
  go_ret2
  exact qV.bad (eR HW5.out _) HC.out.symm (by have:=HC0.out;simpa using this)
 have HC0:Hid (c=0):=h! (by simpa using hc0)
 have hc1:(c != 0)=false:=by simp [bne,hc0]
 go_wp2
 go_ret2
 exact qV.good HW5.out (by rw [<-HC.out,HC0.out]) HI5.out N.out.2.2.2
theorem aDG {w:World} {v:Value} {f:FuncD} (hv:fJ w v f):Calls Tryz.prog 68 #[v] w fun e w'=>e = .returned (.int .i64 (eS f))/\Below w.heap.size w w':=by
 have HV:=h! hv
 obtain ⟨a,b,rfl,hp,ha,hc,hB⟩:=hv
 obtain ⟨ap,cp,rfl⟩:=hp.form
 obtain ⟨ab,cb,rfl⟩:=hB.form
 clear hp ha hc hB
 go_enter Tryz.func68,Tryz.ntmps68
 go_upto_region 1 with (fail)
 have hA_:=(Below.refl w.heap.size w).alloc (aA _) (.cells #[.slice ap f.params.length cp,.int .i64 f.arrays,.int .i64 f.cells,.slice ab f.blocks.length cb] 25)
 have HW:=h! hA_
 clear hA_
 have B1:=h! (Box.new w #[.slice ap f.params.length cp,.int .i64 f.arrays,.int .i64 f.cells,.slice ab f.blocks.length cb] 25)
 generalize w.alloc (.cells #[.slice ap f.params.length cp,.int .i64 f.arrays,.int .i64 f.cells,.slice ab f.blocks.length cb] 25)=wv at *
 obtain ⟨lB1,cB1,fB1⟩:=B1.out
 go_wp2_with fail
 refine (aCX (HV.out.below HW.out)).mono ?_
 rintro e w2 ⟨hb,m,rfl,_,_⟩
 have HB:=h! (HW.out.trans (hb.mono HW.out.size))
 clear hb
 go_wp2
 go_ret
 exact ⟨rfl,HB.out⟩
def aF5 (f:FuncD):Int:=if eS f=0 then jV f else 0
end Go.Proofs.YtagabiidbbhhmaaGreat
