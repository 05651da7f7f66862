/- Part 12. -/
import Derived.Test.YtcmflfkpeodicaaGreatIRA11
namespace Go.Proofs.YtcmflfkpeodicaaGreat
set_option maxHeartbeats 6400000
set_option linter.all false
open Go.RowKit
theorem Turn.setCell {w:World} {b:Nat} (o:Nat) (v:Value):Turn [b] w (w.setCell ⟨b,o,none⟩ v) :=
 ⟨rfl,rfl,rfl,by simp [World.setCell],fun k hk hn=>Below.heap_setCell w ⟨b,o,none⟩ v k (by simpa using hn)⟩
theorem IMap.other {w:World} {b:Nat} {m:List (Int × Value)} (h:IMap w b m) {p:Addr} (v:Value) (hp:b ≠ p.block):IMap (w.setCell p v) b m:=h.keep (Below.heap_setCell w p v b hp)
structure OpenI (T:List (Int × Int)) (bc bm bq be:Nat) (A:Array Value) (us:List (Int × Int)) (W:World):Prop where
 map:IMap W bm (encT T)
 chk:Box W bc A
 ptr:Box W bq #[.pointer (some ⟨bc,0,none⟩)]
 err:Box W be #[.int .i64 (kI T us)]
theorem OpenI.later {T:List (Int × Int)} {bc bm bq be:Nat} {A:Array Value} {us:List (Int × Int)} {W W' : World} (h:OpenI T bc bm bq be A us W) (hb:Below W.heap.size W W'):OpenI T bc bm bq be A us W' :=
 ⟨h.map.later hb,h.chk.later hb,h.ptr.later hb,h.err.later hb⟩
theorem OpenI.set {T:List (Int × Int)} {bc bm bq be:Nat} {A:Array Value} {us:List (Int × Int)} {W:World} (h:OpenI T bc bm bq be A us W) (u:Int × Int) (x:Int) (hx:kI T (us ++ [u])=x) (hne:bm ≠ be/\bc ≠ be/\bq ≠ be) :
  OpenI T bc bm bq be A (us ++ [u]) (W.setCell ⟨be,0,none⟩ (.int .i64 x)) :=
 ⟨h.map.other _ hne.1,h.chk.other _ hne.2.1,h.ptr.other _ hne.2.2,by rw [hx];simpa using h.err.set 0 (.int .i64 x)⟩
theorem OpenI.same {T:List (Int × Int)} {bc bm bq be:Nat} {A:Array Value} {us:List (Int × Int)} {W:World} (h:OpenI T bc bm bq be A us W) (u:Int × Int) (hx:kI T (us ++ [u])=kI T us) :
  OpenI T bc bm bq be A (us ++ [u]) W:=⟨h.map,h.chk,h.ptr,by rw [hx];exact h.err⟩
theorem aDE {W:World} {T:List (Int × Int)} {bc bm bq be:Nat} {vp vb:Value} {ar ce:Int} {us:List (Int × Int)} (u:Int × Int) (hne:bm ≠ be/\bc ≠ be/\bq ≠ be) (h:OpenI T bc bm bq be (chk vp vb ar ce bm) us W) :
  Calls Tryz.prog 128 #[.int .i64 u.1,.int .i64 u.2,.pointer (some ⟨bq,0,none⟩),.pointer (some ⟨be,0,none⟩)] W fun e W'=>e = .returned (.tuple #[])/\OpenI T bc bm bq be (chk vp vb ar ce bm) (us ++ [u]) W' /\ Turn [be] W W':=by
 have H:=h! h
 have HNE:=h! hne
 have HU:=h! (xP T us u)
 obtain ⟨id,typ⟩:=u
 simp only at *
 have hq:=h.ptr.at 0 rfl
 have h4:=h.chk.at 4 (v:=.map (some bm)) rfl
 have he:=h.err
 have HI:=h! h.map
 have HMG:=h! (qT T id)
 obtain ⟨x,hx⟩ : ∃ x,x=kI T us:=⟨_,rfl⟩
 rw [<-hx] at he HU
 have HX:=h! hx
 obtain ⟨le,hce,hfe⟩:=he
 clear h hne hx
 cases hty:tyOf T id with
 | none =>
  rw [hty] at HMG
  have HU2:Hid (kI T (us ++ [(id,typ)])=6):=h! (by rw [HU.out];unfold useE;simp only [hty])
  clear hty
  go_enter Tryz.func128,Tryz.ntmps128
  go_wp2_with (at_lookup;refine fE (q:=.i64) (z:=.int .i64 0) (b:=bm) (mm:=encT T) (y:=id) rfl _ _ _ rfl Tryz.underlying74 Tryz.underlying3 (gT _) rfl HI.out rfl ?_;rw [HMG.out])
  exact bodyPost_end (v:=.tuple #[]) (by simp [results,Tryz.results128,go_sem, *]) rfl ⟨rfl,H.out.set _ 6 HU2.out HNE.out,Turn.setCell _ _⟩
 | some t =>
  rw [hty] at HMG
  have HU2:Hid (kI T (us ++ [(id,typ)])=if typ ≠ 0/\t ≠ typ/\x=0 then 3 else x):=h! (by rw [HU.out];unfold useE;simp only [hty])
  clear hty
  cases h1:(typ != 0) <;> cases h2:(t != typ) <;> cases h3:(x == 0)
  all_goals
   have H1:=h! h1
   have H2:=h! h2
   have H3:=h! h3
   go_enter Tryz.func128,Tryz.ntmps128
   go_wp2_with (at_lookup;refine fE (q:=.i64) (z:=.int .i64 0) (b:=bm) (mm:=encT T) (y:=id) rfl _ _ _ rfl Tryz.underlying74 Tryz.underlying3 (gT _) rfl HI.out rfl ?_;rw [HMG.out])
   first
    | exact bodyPost_end (v:=.tuple #[]) (by simp [results,Tryz.results128,go_sem, *]) rfl ⟨rfl,H.out.set _ 3 (by rw [HU2.out,if_pos];have e1:=H1.out;have e2:=H2.out;have e3:=H3.out;simp at e1 e2 e3;exact ⟨e1,e2,e3⟩) HNE.out,Turn.setCell _ _⟩
    | exact bodyPost_end (v:=.tuple #[]) (by simp [results,Tryz.results128,go_sem, *]) rfl ⟨rfl,H.out.same _ (by rw [HU2.out, <-HX.out,if_neg];have e1:=H1.out;have e2:=H2.out;have e3:=H3.out;simp at e1 e2 e3;rintro ⟨q1,q2,q3⟩;simp_all),Turn.refl _ _⟩
theorem vT:Enters Tryz.prog 128:=enters_of Tryz.func128 (by kernel_rfl) rfl
theorem yF {f:FuncD} (h:gM f=true):∀ b ∈ f.blocks, ∀ x ∈ b.code,x.args.length <= (shp0 x.op).args.length:=by
 intro b hb x hx
 unfold gM at h
 simp only [aN,aZ] at h
 obtain ⟨j,hj,rfl⟩:=dQ hb
 have h1:=h.2 (f.blocks[j],j) (by rw [bJ];exact ⟨j,by simp [hj]⟩)
 unfold fN at h1
 simp only [aN,aZ] at h1
 have h2:=h1.1.2 x hx
 unfold fQ at h2
 simp only [aN,beq_iff_eq] at h2
 exact Nat.le_of_eq h2.1.1.2
def rG (f:FuncD) (w:World) (e:Ending) (w' : World):Prop :=
 Below w.heap.size w w' /\ ∃ m,e = .returned (.tuple #[.map m,.int .i64 (eL f)])/\(eL f=0 -> ∃ bm,m=some bm/\IMap w' bm (encT (eR f))/\w.heap.size <= bm)/\(eL f ≠ 0 -> m=none)
theorem rG.bad {f:FuncD} {w w' : World} {c:Int} (hb:Below w.heap.size w w') (hc:eL f=c) (h0:c ≠ 0):rG f w (.returned (.tuple #[.map none,.int .i64 c])) w':=by
 subst hc;exact ⟨hb,none,rfl,fun h=>absurd h h0,fun _=>rfl⟩
theorem rG.good {f:FuncD} {w w' : World} {bm:Nat} (hb:Below w.heap.size w w') (hc:eL f=0) (hm:IMap w' bm (encT (eR f))) (hl:w.heap.size <= bm):rG f w (.returned (.tuple #[.map (some bm),.int .i64 0])) w' :=
 ⟨hb,some bm,by rw [hc],fun _=>⟨bm,rfl,hm,hl⟩,fun h=>absurd hc h⟩
theorem aC4 {w:World} {v:Value} {f:FuncD} (hv:gG w v f):Calls Tryz.prog 74 #[v] w (rG f w):=by
 obtain ⟨a,b,rfl,hp,ha,hc,hB⟩:=hv
 obtain ⟨ap,cp,rfl⟩:=hp.form
 obtain ⟨ab,cb,rfl⟩:=hB.form
 have HP:=h! hp
 have HB:=h! hB
 have HCH:Hid (eL f=if gM f && idsF f then kI (eR f) (jD f) else 2):=h! rfl
 have HFM:=h! (aCI f)
 obtain ⟨c,hcc⟩ : ∃ c,c=eL f:=⟨_,rfl⟩
 rw [<-hcc] at HCH
 have HC:=h! hcc
 have HNP:Hid (f.params.length=f.params.length):=h! rfl
 clear hp hB ha hc hcc HNP
 obtain ⟨np,hnp⟩ : ∃ np,np=f.params.length:=⟨_,rfl⟩
 obtain ⟨nb,hnb⟩ : ∃ nb,nb=f.blocks.length:=⟨_,rfl⟩
 obtain ⟨ar,har⟩ : ∃ ar,ar=f.arrays:=⟨_,rfl⟩
 obtain ⟨ce,hce⟩ : ∃ ce,ce=f.cells:=⟨_,rfl⟩
 rw [<-hnp] at HP
 rw [<-hnb] at HB
 rw [<-hnp, <-hnb, <-har, <-hce]
 have HNP:=h! hnp
 have HNB:=h! hnb
 have HAR:=h! har
 have HCE:=h! hce
 clear hnp hnb har hce
 have hmm:=@run_makeMap Tryz.prog
 go_enter Tryz.func74,Tryz.ntmps74
 go_upto_region 2 with (fail)
 clear hmm
 have HI:Hid (IMap ((((w.alloc (.cells #[.slice ap np cp,.int .i64 ar,.int .i64 ce,.slice ab nb cb] 25)).alloc (.map #[] 0)).alloc (.cells #[.slice ap np cp,.int .i64 ar,.int .i64 ce,.slice ab nb cb,.map (some (w.heap.size+1))] 199)).alloc (.cells #[.pointer (some ⟨w.heap.size+1+1,0,none⟩)] 197)) (w.heap.size+1) []):=h! (by
  have h:=((IMap.new (w.alloc (.cells #[.slice ap np cp,.int .i64 ar,.int .i64 ce,.slice ab nb cb] 25))).alloc (.cells #[.slice ap np cp,.int .i64 ar,.int .i64 ce,.slice ab nb cb,.map (some (w.heap.size+1))] 199)).alloc (.cells #[.pointer (some ⟨w.heap.size+1+1,0,none⟩)] 197)
  simpa using h)
 have B1:Hid (Box ((((w.alloc (.cells #[.slice ap np cp,.int .i64 ar,.int .i64 ce,.slice ab nb cb] 25)).alloc (.map #[] 0)).alloc (.cells #[.slice ap np cp,.int .i64 ar,.int .i64 ce,.slice ab nb cb,.map (some (w.heap.size+1))] 199)).alloc (.cells #[.pointer (some ⟨w.heap.size+1+1,0,none⟩)] 197)) (w.heap.size) #[.slice ap np cp,.int .i64 ar,.int .i64 ce,.slice ab nb cb]):=h! ((((Box.new _ _ _).alloc _).alloc _).alloc _)
 have BC:Hid (Box ((((w.alloc (.cells #[.slice ap np cp,.int .i64 ar,.int .i64 ce,.slice ab nb cb] 25)).alloc (.map #[] 0)).alloc (.cells #[.slice ap np cp,.int .i64 ar,.int .i64 ce,.slice ab nb cb,.map (some (w.heap.size+1))] 199)).alloc (.cells #[.pointer (some ⟨w.heap.size+1+1,0,none⟩)] 197)) (w.heap.size+1+1) #[.slice ap np cp,.int .i64 ar,.int .i64 ce,.slice ab nb cb,.map (some (w.heap.size+1))]):=h! (by
  have h:=(Box.new ((w.alloc (.cells #[.slice ap np cp,.int .i64 ar,.int .i64 ce,.slice ab nb cb] 25)).alloc (.map #[] 0)) #[.slice ap np cp,.int .i64 ar,.int .i64 ce,.slice ab nb cb,.map (some (w.heap.size+1))] 199).alloc (.cells #[.pointer (some ⟨w.heap.size+1+1,0,none⟩)] 197)
  simpa using h)
 have BQ:Hid (Box ((((w.alloc (.cells #[.slice ap np cp,.int .i64 ar,.int .i64 ce,.slice ab nb cb] 25)).alloc (.map #[] 0)).alloc (.cells #[.slice ap np cp,.int .i64 ar,.int .i64 ce,.slice ab nb cb,.map (some (w.heap.size+1))] 199)).alloc (.cells #[.pointer (some ⟨w.heap.size+1+1,0,none⟩)] 197)) (w.heap.size+1+1+1) #[.pointer (some ⟨w.heap.size+1+1,0,none⟩)]):=h! (by
  have h:=Box.new (((w.alloc (.cells #[.slice ap np cp,.int .i64 ar,.int .i64 ce,.slice ab nb cb] 25)).alloc (.map #[] 0)).alloc (.cells #[.slice ap np cp,.int .i64 ar,.int .i64 ce,.slice ab nb cb,.map (some (w.heap.size+1))] 199)) #[.pointer (some ⟨w.heap.size+1+1,0,none⟩)] 197
  simpa using h)
 have HW:Hid (Below w.heap.size w ((((w.alloc (.cells #[.slice ap np cp,.int .i64 ar,.int .i64 ce,.slice ab nb cb] 25)).alloc (.map #[] 0)).alloc (.cells #[.slice ap np cp,.int .i64 ar,.int .i64 ce,.slice ab nb cb,.map (some (w.heap.size+1))] 199)).alloc (.cells #[.pointer (some ⟨w.heap.size+1+1,0,none⟩)] 197))):=h! (((((Below.refl _ _).alloc (aF _) _).alloc (by simp) _).alloc (by simp;omega) _).alloc (by simp;omega) _)
 generalize ((((w.alloc (.cells #[.slice ap np cp,.int .i64 ar,.int .i64 ce,.slice ab nb cb] 25)).alloc (.map #[] 0)).alloc (.cells #[.slice ap np cp,.int .i64 ar,.int .i64 ce,.slice ab nb cb,.map (some (w.heap.size+1))] 199)).alloc (.cells #[.pointer (some ⟨w.heap.size+1+1,0,none⟩)] 197))=w2 at *
 obtain ⟨bm,hbm⟩ : ∃ bm,bm=w.heap.size+1:=⟨_,rfl⟩
 obtain ⟨bc,hbc⟩ : ∃ bc,bc=w.heap.size+1+1:=⟨_,rfl⟩
 obtain ⟨bq,hbq⟩ : ∃ bq,bq=w.heap.size+1+1+1:=⟨_,rfl⟩
 obtain ⟨b1,hb1⟩ : ∃ b1,b1=w.heap.size:=⟨_,rfl⟩
 have n1:bc ≠ bm:=by omega
 have n2:bq ≠ bm:=by omega
 have n3:b1 ≠ bm:=by omega
 have n4:w.heap.size <= bm:=by omega
 rw [<-hbq, <-hbc] at BQ
 rw [<-hbc, <-hbm] at BC
 rw [<-hbm] at HI
 have B1' : Hid (Box w2 b1 #[.slice ap np cp,.int .i64 ar,.int .i64 ce,.slice ab nb cb]):=h! (by rw [hb1];exact B1.out)
 clear B1
 have B1:=B1'
 clear B1'
 have N:=h! (show bc ≠ bm/\bq ≠ bm/\b1 ≠ bm/\w.heap.size <= bm from ⟨n1,n2,n3,n4⟩)
 simp only [<-hbq]
 simp only [<-hbc]
 simp only [<-hbm]
 rw [show (Value.pointer (some ⟨w.heap.size,0,none⟩)) = .pointer (some ⟨b1,0,none⟩) by rw [hb1]]
 clear hbq hbc hbm hb1 n1 n2 n3 n4
 obtain ⟨lB1,cB1,fB1⟩:=B1.out
 obtain ⟨lBC,cBC,fBC⟩:=BC.out
 obtain ⟨lBQ,cBQ,fBQ⟩:=BQ.out
 go_wp2_with fail
 clear lB1 cB1 fB1 lBC cBC fBC lBQ cBQ fBQ
 have HFORM:Hid (Calls Tryz.prog 126 #[.pointer (some ⟨bc,0,none⟩)] w2 (iA (sI f) bm w2)):=h! (aA2 (f:=f) (ap:=ap) (cp:=cp) (ab:=ab) (cb:=cb) HW.out N.out.2.2.2 N.out.1 (by rw [<-HNP.out, <-HNB.out, <-HAR.out, <-HCE.out];exact BC.out) HI.out (by rw [<-HNP.out];exact HP.out) (by rw [<-HNB.out];exact HB.out))
 rw [HFM.out] at HFORM
 cases hfo:(gM f && idsF f)
 ·have HFO:=h! hfo
  simp only [hfo,bL,if_false] at HFORM
  clear hfo
  have HC2:Hid (c=2):=h! (by rw [HCH.out,HFO.out];rfl)
  refine HFORM.out.mono ?_
  rintro e w3 ⟨rfl,h3,t3⟩
  have T3:=h! (HW.out.trans (t3.below HW.out.size (fun x hx=>by simp at hx;subst hx;exact N.out.2.2.2)))
  clear h3 t3
  go_wp2
  go_ret2
  exact rG.bad T3.out (by rw [<-HC.out,HC2.out]) (by decide)
 have HFO:=h! hfo
 simp only [hfo,if_true] at HFORM
 clear hfo
 have HC2:Hid (c=kI (eR f) (jD f)):=h! (by rw [HCH.out,HFO.out];rfl)
 refine HFORM.out.mono ?_
 rintro e w3 ⟨rfl,h3,t3⟩
 have T3:=h! t3
 replace HI:=h! (h3 _ rfl)
 replace HW:=h! (HW.out.trans (t3.below HW.out.size (fun x hx=>by simp at hx;subst hx;exact N.out.2.2.2)))
 replace B1:=h! (B1.out.turn t3 (by simpa using N.out.2.2.1))
 replace BC:=h! (BC.out.turn t3 (by simpa using N.out.1))
 replace BQ:=h! (BQ.out.turn t3 (by simpa using N.out.2.1))
 clear h3 t3 HFORM
 have HL0:=h! (⟨HI.out.lt,BC.out.lt,BQ.out.lt,HW.out.size⟩ : bm < w3.heap.size/\bc < w3.heap.size/\bq < w3.heap.size/\w.heap.size <= w3.heap.size)
 obtain ⟨lB1,cB1,fB1⟩:=B1.out
 obtain ⟨lBC,cBC,fBC⟩:=BC.out
 obtain ⟨lBQ,cBQ,fBQ⟩:=BQ.out
 go_upto_region 5 with (fail)
 have nBEB1:w3.heap.size ≠ b1:=fun e=>by have:=lB1;omega
 have nB1BE:b1 ≠ w3.heap.size:=fun e=>nBEB1 e.symm
 have nBEBC:w3.heap.size ≠ bc:=fun e=>by have:=lBC;omega
 have nBCBE:bc ≠ w3.heap.size:=fun e=>nBEBC e.symm
 have nBEBQ:w3.heap.size ≠ bq:=fun e=>by have:=lBQ;omega
 have nBQBE:bq ≠ w3.heap.size:=fun e=>nBEBQ e.symm
 clear lB1 cB1 fB1 lBC cBC fBC lBQ cBQ fBQ
 have hA_:=(Below.refl w3.heap.size w3).alloc (aF _) (.cells #[.int .i64 0] 38)
 replace B1:=h! (B1.out.later hA_)
 replace BC:=h! (BC.out.later hA_)
 replace BQ:=h! (BQ.out.later hA_)
 replace HI:=h! (HI.out.later hA_)
 replace HW:=h! (HW.out.trans (hA_.mono HW.out.size))
 clear hA_
 have BE:=h! (Box.new w3 #[.int .i64 0] 38)
 generalize w3.alloc (.cells #[.int .i64 0] 38)=w4 at *
 obtain ⟨lB1,cB1,fB1⟩:=B1.out
 obtain ⟨lBC,cBC,fBC⟩:=BC.out
 obtain ⟨lBQ,cBQ,fBQ⟩:=BQ.out
 obtain ⟨lBE,cBE,fBE⟩:=BE.out
 go_wp2_with fail
 clear lB1 cB1 fB1 lBC cBC fBC lBQ cBQ fBQ lBE cBE fBE
 have HEACH:Hid (Calls Tryz.prog 127 #[.agg #[.slice ap np cp,.int .i64 ar,.int .i64 ce,.slice ab nb cb],.func (.func 128) #[] #[.pointer (some ⟨bq,0,none⟩),.pointer (some ⟨w3.heap.size,0,none⟩)]] w4
   (aHB (jD f) [w3.heap.size] (OpenI (eR f) bc bm bq w3.heap.size (chk (.slice ap np cp) (.slice ab nb cb) ar ce bm)) w4)):=h! (by
  rw [HAR.out,HCE.out]
  refine aHC (w:=w) HW.out HNB.out HB.out (yF (by have:=HFO.out;simp at this;exact this.1)) _ _ vT [w3.heap.size] (fun b hb=>by simp at hb;subst hb;exact ⟨HL0.out.2.2.2,BE.out.lt⟩) _ ?_ (fun us W W' h hb=>h.later hb) ?_
  ·refine ⟨HI.out, ?_,BQ.out,BE.out⟩
   rw [<-HAR.out, <-HCE.out];exact BC.out
  ·intro us u W h1 h2
   exact aDE u ⟨by have:=HL0.out;omega,by have:=HL0.out;omega,by have:=HL0.out;omega⟩ h1)
 refine HEACH.out.mono ?_
 rintro e w5 ⟨rfl,hI5,hT5⟩
 obtain ⟨hi1,hi2,hi3,hi4⟩:=hI5
 rw [<-HC2.out] at hi4
 have HW5:=h! (HW.out.trans (hT5.below HW.out.size (fun x hx=>by simp at hx;subst hx;exact HL0.out.2.2.2)))
 have HI5:=h! hi1
 have BC5:=h! hi2
 have BQ5:=h! hi3
 have BE5:=h! hi4
 have e0:=hi4.at 0 (v:=.int .i64 c) rfl
 have e1:=hi3.at 0 (v:=.pointer (some ⟨bc,0,none⟩)) rfl
 have e2:=hi2.at 4 (v:=.map (some bm)) rfl
 clear hT5 hi1 hi2 hi3 hi4 HEACH
 cases hc0:(c == 0)
 ·have HC0:=h! hc0
  have hc1:(c != 0)=true:=by simp [bne,hc0]
  go_upto_region 7 with (fail)
  go_quiet (fail)
  go_wp2
  go_ret2
  exact rG.bad (eK HW5.out _) HC.out.symm (by have:=HC0.out;simpa using this)
 have HC0:Hid (c=0):=h! (by simpa using hc0)
 have hc1:(c != 0)=false:=by simp [bne,hc0]
 go_wp2
 go_ret2
 exact rG.good HW5.out (by rw [<-HC.out,HC0.out]) HI5.out N.out.2.2.2
def strA (l:List Int):ByteArray:=⟨(l.map fun t=>if t=1 then (73:UInt8) else 66).toArray⟩
def eU (op:Int) (w:World) (e:Ending) (w' : World):Prop:=e = .returned (.tuple #[.string (strA (shp0 op).args),.int .i64 (shp0 op).result,.int .i64 (shp0 op).n,.bool (shp op).isSome])/\w=w'
theorem yG {w:World}:Calls Tryz.prog 140 #[.int .i64 1] w (eU 1 w):=by
 go_enter Tryz.func140,Tryz.ntmps140
 go_wp2
 exact bodyPost_ret (v:=.tuple #[.string ⟨#[]⟩,.int .i64 1,.int .i64 1,.bool true]) (by simp [results,Tryz.results140,go_sem, *]) rfl ⟨rfl,rfl⟩
theorem yH {w:World}:Calls Tryz.prog 140 #[.int .i64 2] w (eU 2 w):=by
 go_enter Tryz.func140,Tryz.ntmps140
 go_wp2
 exact bodyPost_ret (v:=.tuple #[.string ⟨#[]⟩,.int .i64 2,.int .i64 2,.bool true]) (by simp [results,Tryz.results140,go_sem, *]) rfl ⟨rfl,rfl⟩
theorem yI {w:World}:Calls Tryz.prog 140 #[.int .i64 3] w (eU 3 w):=by
 go_enter Tryz.func140,Tryz.ntmps140
 go_wp2
 exact bodyPost_ret (v:=.tuple #[.string ⟨#[73,73]⟩,.int .i64 1,.int .i64 0,.bool true]) (by simp [results,Tryz.results140,go_sem, *]) rfl ⟨rfl,rfl⟩
theorem yJ {w:World}:Calls Tryz.prog 140 #[.int .i64 4] w (eU 4 w):=by
 go_enter Tryz.func140,Tryz.ntmps140
 go_wp2
 exact bodyPost_ret (v:=.tuple #[.string ⟨#[73,73]⟩,.int .i64 1,.int .i64 0,.bool true]) (by simp [results,Tryz.results140,go_sem, *]) rfl ⟨rfl,rfl⟩
theorem yK {w:World}:Calls Tryz.prog 140 #[.int .i64 5] w (eU 5 w):=by
 go_enter Tryz.func140,Tryz.ntmps140
 go_wp2
 exact bodyPost_ret (v:=.tuple #[.string ⟨#[73,73]⟩,.int .i64 1,.int .i64 0,.bool true]) (by simp [results,Tryz.results140,go_sem, *]) rfl ⟨rfl,rfl⟩
theorem yL {w:World}:Calls Tryz.prog 140 #[.int .i64 6] w (eU 6 w):=by
 go_enter Tryz.func140,Tryz.ntmps140
 go_wp2
 exact bodyPost_ret (v:=.tuple #[.string ⟨#[73,73]⟩,.int .i64 1,.int .i64 0,.bool true]) (by simp [results,Tryz.results140,go_sem, *]) rfl ⟨rfl,rfl⟩
theorem yM {w:World}:Calls Tryz.prog 140 #[.int .i64 7] w (eU 7 w):=by
 go_enter Tryz.func140,Tryz.ntmps140
 go_wp2
 exact bodyPost_ret (v:=.tuple #[.string ⟨#[73,73]⟩,.int .i64 1,.int .i64 0,.bool true]) (by simp [results,Tryz.results140,go_sem, *]) rfl ⟨rfl,rfl⟩
theorem yN {w:World}:Calls Tryz.prog 140 #[.int .i64 8] w (eU 8 w):=by
 go_enter Tryz.func140,Tryz.ntmps140
 go_wp2
 exact bodyPost_ret (v:=.tuple #[.string ⟨#[73,73]⟩,.int .i64 1,.int .i64 0,.bool true]) (by simp [results,Tryz.results140,go_sem, *]) rfl ⟨rfl,rfl⟩
theorem yO {w:World}:Calls Tryz.prog 140 #[.int .i64 9] w (eU 9 w):=by
 go_enter Tryz.func140,Tryz.ntmps140
 go_wp2
 exact bodyPost_ret (v:=.tuple #[.string ⟨#[73,73]⟩,.int .i64 1,.int .i64 0,.bool true]) (by simp [results,Tryz.results140,go_sem, *]) rfl ⟨rfl,rfl⟩
theorem vU {w:World}:Calls Tryz.prog 140 #[.int .i64 10] w (eU 10 w):=by
 go_enter Tryz.func140,Tryz.ntmps140
 go_wp2
 exact bodyPost_ret (v:=.tuple #[.string ⟨#[73,73]⟩,.int .i64 1,.int .i64 0,.bool true]) (by simp [results,Tryz.results140,go_sem, *]) rfl ⟨rfl,rfl⟩
theorem vV {w:World}:Calls Tryz.prog 140 #[.int .i64 11] w (eU 11 w):=by
 go_enter Tryz.func140,Tryz.ntmps140
 go_wp2
 exact bodyPost_ret (v:=.tuple #[.string ⟨#[73,73]⟩,.int .i64 1,.int .i64 0,.bool true]) (by simp [results,Tryz.results140,go_sem, *]) rfl ⟨rfl,rfl⟩
theorem vW {w:World}:Calls Tryz.prog 140 #[.int .i64 12] w (eU 12 w):=by
 go_enter Tryz.func140,Tryz.ntmps140
 go_wp2
 exact bodyPost_ret (v:=.tuple #[.string ⟨#[73,73]⟩,.int .i64 1,.int .i64 0,.bool true]) (by simp [results,Tryz.results140,go_sem, *]) rfl ⟨rfl,rfl⟩
theorem vX {w:World}:Calls Tryz.prog 140 #[.int .i64 13] w (eU 13 w):=by
 go_enter Tryz.func140,Tryz.ntmps140
 go_wp2
 exact bodyPost_ret (v:=.tuple #[.string ⟨#[73,73]⟩,.int .i64 2,.int .i64 0,.bool true]) (by simp [results,Tryz.results140,go_sem, *]) rfl ⟨rfl,rfl⟩
theorem vY {w:World}:Calls Tryz.prog 140 #[.int .i64 14] w (eU 14 w):=by
 go_enter Tryz.func140,Tryz.ntmps140
 go_wp2
 exact bodyPost_ret (v:=.tuple #[.string ⟨#[73,73]⟩,.int .i64 2,.int .i64 0,.bool true]) (by simp [results,Tryz.results140,go_sem, *]) rfl ⟨rfl,rfl⟩
theorem vZ {w:World}:Calls Tryz.prog 140 #[.int .i64 15] w (eU 15 w):=by
 go_enter Tryz.func140,Tryz.ntmps140
 go_wp2
 exact bodyPost_ret (v:=.tuple #[.string ⟨#[73,73]⟩,.int .i64 2,.int .i64 0,.bool true]) (by simp [results,Tryz.results140,go_sem, *]) rfl ⟨rfl,rfl⟩
theorem wA {w:World}:Calls Tryz.prog 140 #[.int .i64 16] w (eU 16 w):=by
 go_enter Tryz.func140,Tryz.ntmps140
 go_wp2
 exact bodyPost_ret (v:=.tuple #[.string ⟨#[66]⟩,.int .i64 2,.int .i64 0,.bool true]) (by simp [results,Tryz.results140,go_sem, *]) rfl ⟨rfl,rfl⟩
theorem wB {w:World}:Calls Tryz.prog 140 #[.int .i64 17] w (eU 17 w):=by
 go_enter Tryz.func140,Tryz.ntmps140
 go_wp2
 exact bodyPost_ret (v:=.tuple #[.string ⟨#[66,73,73]⟩,.int .i64 1,.int .i64 0,.bool true]) (by simp [results,Tryz.results140,go_sem, *]) rfl ⟨rfl,rfl⟩
theorem wC {w:World}:Calls Tryz.prog 140 #[.int .i64 18] w (eU 18 w):=by
 go_enter Tryz.func140,Tryz.ntmps140
 go_wp2
 exact bodyPost_ret (v:=.tuple #[.string ⟨#[]⟩,.int .i64 1,.int .i64 3,.bool true]) (by simp [results,Tryz.results140,go_sem, *]) rfl ⟨rfl,rfl⟩
theorem wD {w:World}:Calls Tryz.prog 140 #[.int .i64 19] w (eU 19 w):=by
 go_enter Tryz.func140,Tryz.ntmps140
 go_wp2
 exact bodyPost_ret (v:=.tuple #[.string ⟨#[73]⟩,.int .i64 1,.int .i64 3,.bool true]) (by simp [results,Tryz.results140,go_sem, *]) rfl ⟨rfl,rfl⟩
theorem wE {w:World}:Calls Tryz.prog 140 #[.int .i64 21] w (eU 21 w):=by
 go_enter Tryz.func140,Tryz.ntmps140
 go_wp2
 exact bodyPost_ret (v:=.tuple #[.string ⟨#[73]⟩,.int .i64 1,.int .i64 3,.bool true]) (by simp [results,Tryz.results140,go_sem, *]) rfl ⟨rfl,rfl⟩
theorem wF {w:World}:Calls Tryz.prog 140 #[.int .i64 20] w (eU 20 w):=by
 go_enter Tryz.func140,Tryz.ntmps140
 go_wp2
 exact bodyPost_ret (v:=.tuple #[.string ⟨#[73,73]⟩,.int .i64 0,.int .i64 3,.bool true]) (by simp [results,Tryz.results140,go_sem, *]) rfl ⟨rfl,rfl⟩
theorem wG {w:World}:Calls Tryz.prog 140 #[.int .i64 22] w (eU 22 w):=by
 go_enter Tryz.func140,Tryz.ntmps140
 go_wp2
 exact bodyPost_ret (v:=.tuple #[.string ⟨#[73,73]⟩,.int .i64 0,.int .i64 3,.bool true]) (by simp [results,Tryz.results140,go_sem, *]) rfl ⟨rfl,rfl⟩
theorem wH {w:World}:Calls Tryz.prog 140 #[.int .i64 23] w (eU 23 w):=by
 go_enter Tryz.func140,Tryz.ntmps140
 go_wp2
 exact bodyPost_ret (v:=.tuple #[.string ⟨#[73]⟩,.int .i64 0,.int .i64 0,.bool true]) (by simp [results,Tryz.results140,go_sem, *]) rfl ⟨rfl,rfl⟩
theorem wI {w:World}:Calls Tryz.prog 140 #[.int .i64 24] w (eU 24 w):=by
 go_enter Tryz.func140,Tryz.ntmps140
 go_wp2
 exact bodyPost_ret (v:=.tuple #[.string ⟨#[]⟩,.int .i64 1,.int .i64 4,.bool true]) (by simp [results,Tryz.results140,go_sem, *]) rfl ⟨rfl,rfl⟩
theorem wJ {w:World}:Calls Tryz.prog 140 #[.int .i64 25] w (eU 25 w):=by
 go_enter Tryz.func140,Tryz.ntmps140
 go_wp2
 exact bodyPost_ret (v:=.tuple #[.string ⟨#[73]⟩,.int .i64 0,.int .i64 4,.bool true]) (by simp [results,Tryz.results140,go_sem, *]) rfl ⟨rfl,rfl⟩
theorem wK {w:World} {op:Int} (h:op < 1 \/ 25 < op):Calls Tryz.prog 140 #[.int .i64 op] w (eU op w):=by
 have HS:=h! (show shp op=none by unfold shp;repeat (rw [if_neg (by omega)]))
 have e1:(op == 1)=false:=by simp;omega
 have e2:(op == 2)=false:=by simp;omega
 have e3:(op == 3)=false:=by simp;omega
 have e4:(op == 4)=false:=by simp;omega
 have e5:(op == 5)=false:=by simp;omega
 have e6:(op == 6)=false:=by simp;omega
 have e7:(op == 7)=false:=by simp;omega
 have e8:(op == 8)=false:=by simp;omega
 have e9:(op == 9)=false:=by simp;omega
 have e10:(op == 10)=false:=by simp;omega
 have e11:(op == 11)=false:=by simp;omega
 have e12:(op == 12)=false:=by simp;omega
 have e13:(op == 13)=false:=by simp;omega
 have e14:(op == 14)=false:=by simp;omega
 have e15:(op == 15)=false:=by simp;omega
 have e16:(op == 16)=false:=by simp;omega
 have e17:(op == 17)=false:=by simp;omega
 have e18:(op == 18)=false:=by simp;omega
 have e19:(op == 19)=false:=by simp;omega
 have e20:(op == 20)=false:=by simp;omega
 have e21:(op == 21)=false:=by simp;omega
 have e22:(op == 22)=false:=by simp;omega
 have e23:(op == 23)=false:=by simp;omega
 have e24:(op == 24)=false:=by simp;omega
 have e25:(op == 25)=false:=by simp;omega
 clear h
 go_enter Tryz.func140,Tryz.ntmps140
 go_wp2
 exact bodyPost_ret (v:=.tuple #[.string ⟨#[]⟩,.int .i64 0,.int .i64 0,.bool false]) (by simp [results,Tryz.results140,go_sem, *]) rfl ⟨by unfold shp0;rw [HS.out];rfl,rfl⟩
theorem eO {w:World} (op:Int):Calls Tryz.prog 140 #[.int .i64 op] w (eU op w):=by
 by_cases h:op < 1 \/ 25 < op
 ·exact wK h
 obtain rfl | rfl | rfl | rfl | rfl | rfl | rfl | rfl | rfl | rfl | rfl | rfl | rfl | rfl | rfl | rfl | rfl | rfl | rfl | rfl | rfl | rfl | rfl | rfl | rfl:op=1 \/ op=2 \/ op=3 \/ op=4 \/ op=5 \/ op=6 \/ op=7 \/ op=8 \/ op=9 \/ op=10 \/ op=11 \/ op=12 \/ op=13 \/ op=14 \/ op=15 \/ op=16 \/ op=17 \/ op=18 \/ op=19 \/ op=20 \/ op=21 \/ op=22 \/ op=23 \/ op=24 \/ op=25:=by omega
 ·exact yG
 ·exact yH
 ·exact yI
 ·exact yJ
 ·exact yK
 ·exact yL
 ·exact yM
 ·exact yN
 ·exact yO
 ·exact vU
 ·exact vV
 ·exact vW
 ·exact vX
 ·exact vY
 ·exact vZ
 ·exact wA
 ·exact wB
 ·exact wC
 ·exact wD
 ·exact wF
 ·exact wE
 ·exact wG
 ·exact wH
 ·exact wI
 exact wJ
theorem yP {op:Int} (h:op < 1 \/ 25 < op):shp0 op=⟨0,[],0⟩:=by
 have HS:shp op=none:=by unfold shp;repeat (rw [if_neg (by omega)])
 unfold shp0;rw [HS];rfl
theorem oC (op:Int):(shp0 op).args.length <= 3/\(∀ t ∈ (shp0 op).args,t=1 \/ t=2)/\0 <= (shp0 op).result/\(shp0 op).result <= 2:=by
 by_cases h:op < 1 \/ 25 < op
 ·rw [yP h];simp
 obtain rfl | rfl | rfl | rfl | rfl | rfl | rfl | rfl | rfl | rfl | rfl | rfl | rfl | rfl | rfl | rfl | rfl | rfl | rfl | rfl | rfl | rfl | rfl | rfl | rfl:op=1 \/ op=2 \/ op=3 \/ op=4 \/ op=5 \/ op=6 \/ op=7 \/ op=8 \/ op=9 \/ op=10 \/ op=11 \/ op=12 \/ op=13 \/ op=14 \/ op=15 \/ op=16 \/ op=17 \/ op=18 \/ op=19 \/ op=20 \/ op=21 \/ op=22 \/ op=23 \/ op=24 \/ op=25:=by omega
 all_goals decide
theorem lQ {w:World} {T:TypeId} {B:Nat} {bs:List Nat} (hB:B <= w.heap.size) (hbs:∀ b ∈ bs,b ≠ w.heap.size) (size:Nat):Own (w.alloc (.cells #[] T)) B bs T size (.slice (some ⟨w.heap.size,0,none⟩) 0 0) 0 [] :=
 ⟨⟨by simp,.inr ⟨w.heap.size,0,#[],by simp,hB,by (show (w.heap.push _)[w.heap.size]? = _);simp,by simp,by unfold maxLen;omega,by simp,by simp⟩⟩,fun g hg hm=>by cases hg;exact hbs _ hm rfl⟩
def aBL (op:Int) (w:World) (e:Ending) (w' : World):Prop := ∃ u,e = .returned (.tuple #[.int .i64 (shp0 op).result,u,.bool (shp op).isSome])/\New 3 w w' u (shp0 op).args/\Below w.heap.size w w'
theorem aDF {w:World} (op:Int):Calls Tryz.prog 120 #[.int .i64 op] w (aBL op w):=by
 obtain ⟨args,hargs⟩ : ∃ args,args=(shp0 op).args:=⟨_,rfl⟩
 obtain ⟨n,hn⟩ : ∃ n,n=args.length:=⟨_,rfl⟩
 have h12:=oC op
 rw [<-hargs, <-hn] at h12
 have H12:=h! h12.2.1
 have hn3:=h12.1
 obtain ⟨s,hs⟩ : ∃ s,s=strA args:=⟨_,rfl⟩
 have hsz:s.size=n:=by rw [hs,hn];unfold strA;simp [ByteArray.size]
 have HSB:Hid (∀ (k:Nat) (h:k < s.size),((s[k]'h).toNat:Int)=if args.getD k 0=1 then 73 else 66):=h! (by
  subst hs
  intro k h
  have hk:k < args.length:=by rw [hsz,hn] at h;exact h
  have:(strA args)[k]'h=if args[k]=1 then (73:UInt8) else 66:=by
   have h2:k < ((args.map fun t=>if t=1 then (73:UInt8) else 66).toArray).size:=h
   have h3:((args.map fun t=>if t=1 then (73:UInt8) else 66).toArray)[k]'h2=if args[k]=1 then (73:UInt8) else 66:=by simp
   exact h3
  rw [this,aH,aB hk,dA]
  split <;> rfl)
 have HS:=h! hs
 have HA:=h! hargs
 have HN:=h! hn
 have HSZ:=h! hsz
 clear h12 hs hargs hn hsz
 go_enter Tryz.func120,Tryz.ntmps120
 go_wp2_with fail
 refine (eO op).mono ?_
 rintro e w1 ⟨rfl,rfl⟩
 rw [<-HA.out, <-HS.out]
 go_wp2_with fail
 have hO0:Own (w.alloc (.cells #[] 3)) w.heap.size [] 3 1 (.slice (some ⟨w.heap.size,0,none⟩) 0 0) 0 []:=lQ (aF _) (by simp) 1
 have HO:=h! hO0
 have HW:=h! ((Below.refl w.heap.size w).alloc (aF _) (.cells #[] 3))
 clear hO0
 generalize w.alloc _=wa at *
 go_loopw [9,10] (fun u i wr => ∃ k:Nat,k <= n/\i = .int .i64 k/\Own wr w.heap.size [] 3 1 u k ((args.take k).map (.int .i64))/\Below w.heap.size w wr) (fun _ i _=>n - (intOf i).toNat)
 case atStart=>exact ⟨0,aP _,rfl,HO.out,HW.out⟩
 obtain ⟨k,hk,rfl,hO,hW⟩:=hrel
 obtain ⟨a,c,rfl⟩:=hO.form
 replace HO:=h! hO
 replace HW:=h! hW
 clear hO hW
 have hsz:=HSZ.out
 by_cases hlt:k < n
 ·have hks:k < s.size:=by omega
  have hsl:k < s.size/\s.size <= 3:=⟨hks,by omega⟩
  have HK:=h! (HSB.out k hks)
  have HKS:=h! (eP args k (args.getD k 0) (eX args k (by have:=HN.out;omega)))
  have HTM:=h! (H12.out (args.getD k 0) (aG (eX args k (by have:=HN.out;omega))))
  generalize args.getD k 0=t at *
  have hs3:=hsl.2
  clear hsl
  have HSZ2:=h! hsz
  clear hsz
  rcases HTM.out with rfl | rfl
  all_goals
   have hbt:=HK.out
   simp only [if_true,show ((2:Int)=1)=False by simp,if_false] at hbt
   first | (have hbt2:(((s[k]'hks).toNat:Int) == 73)=true:=by rw [hbt];rfl) | (have hbt2:(((s[k]'hks).toNat:Int) == 73)=false:=by rw [hbt];rfl)
   clear hbt
   go_wp2_with (at_builtin;refine fZ rfl _ _ 22 3 rfl mA rfl rfl (HO.out.alloc _) (Row.of_box (n:=1) (size:=1) (Box.new _ _ _) rfl (by omega)) (by simp [Value.oneCell']) (by unfold maxLen;omega) (by omega) (by simp;have:=HW.out.size;omega) (by intro b hb;simp at hb) ?_;intro v2 w2 hO2 _ hB2;have HO2:=h! hO2;have HB2:=h! hB2;clear hO2 hB2)
   go_roundw
   case rel=>exact ⟨k+1,hlt,by go_num,by rw [HKS.out,bF];exact HO2.out,(HW.out.alloc (by have:=HW.out.size;omega) _).trans HB2.out⟩
   simp [intOf];omega
 obtain rfl:k=n:=by omega
 rw [aI (by have:=HN.out;omega)] at HO
 have hs3:s.size <= 3:=by omega
 go_wp2
 have HNW:Hid (New 3 w wr (.slice a k c) args):=h! ⟨by rw [<-HN.out];exact HO.out.row,by have:=HN.out;omega,fun x hx=>by rcases H12.out x hx with rfl | rfl <;> exact ⟨by decide,by decide⟩⟩
 exact bodyPost_ret (v:=.tuple #[.int .i64 (shp0 op).result,.slice a k c,.bool (shp op).isSome]) (by simp [results,Tryz.results120,go_sem, *]) rfl ⟨_,rfl,by rw [<-HA.out];exact HNW.out,HW.out⟩
end Go.Proofs.YtcmflfkpeodicaaGreat
