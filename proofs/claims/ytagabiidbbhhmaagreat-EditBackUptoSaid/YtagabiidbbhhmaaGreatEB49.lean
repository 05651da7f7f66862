/- Part 49. -/
import Derived.Test.YtagabiidbbhhmaaGreatEB48
namespace Go.Proofs.YtagabiidbbhhmaaGreat
set_option linter.all false
open Go.RowKit
private theorem fQ.alloc {w0 W:World} (h:fQ w0 W) (o:Obj):fQ w0 (W.alloc o):=h.later ((Below.refl _ _).alloc (aA _) o)
set_option maxHeartbeats 25600000 in
set_option maxRecDepth 100000 in
theorem aBM {w:World} {v:Value} {f:FuncD} (hv:fJ w v f) (hc:eS f=0) (hr:fZ f 0 0):Calls Tryz.prog 37 #[v] w (uA f w):=by
 have HV:=h! hv
 obtain ⟨ap,cp,ab,cb,rfl,hp,ha,hc64,hB⟩:=hv.form
 have HC0:=h! hc
 have HALL:=h! (qD hr)
 have HF:=h! (fA hc).1
 have HSZ:=h! (nY hc)
 obtain ⟨np,hnp⟩ : ∃ np,np=f.params.length:=⟨_,rfl⟩
 obtain ⟨ar,har⟩ : ∃ ar,ar=f.arrays:=⟨_,rfl⟩
 obtain ⟨ce,hce⟩ : ∃ ce,ce=f.cells:=⟨_,rfl⟩
 obtain ⟨nb,hnb⟩ : ∃ nb,nb=f.blocks.length:=⟨_,rfl⟩
 rw [<-hnb, <-hnp, <-har, <-hce] at HV
 rw [<-hnb, <-hnp, <-har, <-hce]
 have hn1:1 <= nb:=by rw [hnb];exact (iJ HF.out).1
 have h512:nb <= 512:=by rw [hnb];exact (iJ HF.out).2
 have HNB:=h! hnb
 have HNP:=h! hnp
 have HAC:Hid (ar=f.arrays/\ce=f.cells):=h! ⟨har,hce⟩
 clear hp ha hc64 hB hv hnp hnb har hce hc hr
 go_enter Tryz.func37,Tryz.ntmps37
 go_upto_region 1 with (fail)
 have hA_:=(Below.refl w.heap.size w).alloc (aA _) (.cells #[.slice ap np cp,.int .i64 ar,.int .i64 ce,.slice ab nb cb] 25)
 have HW:=h! hA_
 clear hA_
 have B1:=h! (Box.new w #[.slice ap np cp,.int .i64 ar,.int .i64 ce,.slice ab nb cb] 25)
 have hz0_:(w.alloc (.cells #[.slice ap np cp,.int .i64 ar,.int .i64 ce,.slice ab nb cb] 25)).heap.size=w.heap.size+1:=World.size_alloc _ _
 generalize w.alloc (.cells #[.slice ap np cp,.int .i64 ar,.int .i64 ce,.slice ab nb cb] 25)=wv0 at *
 have hA_:=(Below.refl wv0.heap.size wv0).alloc (aA _) (.cells #[.slice none 0 0,.int .i64 0,.int .i64 0,.slice none 0 0] 25)
 replace B1:=h! (B1.out.later hA_)
 replace HW:=h! (HW.out.trans (hA_.mono HW.out.size))
 clear hA_
 have B2:=h! (Box.new wv0 #[.slice none 0 0,.int .i64 0,.int .i64 0,.slice none 0 0] 25)
 rw [hz0_] at B2
 clear hz0_
 generalize wv0.alloc (.cells #[.slice none 0 0,.int .i64 0,.int .i64 0,.slice none 0 0] 25)=wv at *
 obtain ⟨lB1,cB1,fB1⟩:=B1.out
 obtain ⟨lB2,cB2,fB2⟩:=B2.out
 go_wp2_with fail
 refine (uI (HV.out.below HW.out) HF.out).mono ?_
 rintro e w1 ⟨bg,O,rfl,hO,⟨g0,g1,g2,g3,pv,ov,lv,e0,hbg,hwbg,hpv,hov,hlv⟩,hb⟩
 obtain ⟨rfl,rfl,rfl,rfl⟩ : Value.slice ap np cp=g0/\Value.int .i64 ar=g1/\Value.int .i64 ce=g2/\Value.slice ab nb cb=g3:=by simpa using e0
 obtain ⟨la,lc,lb,lo,rfl,hlc,hlm,hla,hlx⟩:=hlv.parts
 obtain ⟨oa,oc,ob,oo,rfl,hoc,hom,hoa,hox⟩:=hov.parts
 obtain ⟨no,hno⟩ : ∃ no,no=O.length:=⟨_,rfl⟩
 rw [fN, <-HNB.out] at hlc hla hlx hbg
 rw [fY, <-hno] at hoc hoa hox hbg
 have h0O:=rF hO HALL.out 0 (by have:=HNB.out;omega)
 have hno1:1 <= no:=by rw [hno];exact List.length_pos_of_mem h0O
 have hno2:no <= nb:=by rw [hno,HNB.out];exact hO.le
 obtain ⟨rfl,hlw⟩:=hla (by omega)
 obtain ⟨rfl,how⟩:=hoa (by omega)
 have HNO:=h! hno
 have HO:=h! hO
 have HBG:=h! hbg
 have HAO:=h! (rF hO HALL.out)
 have HPL:Hid (∀ q:Int,q.toNat < nb -> q.toNat ∈ O -> w1.cell? ⟨lb,lo+q.toNat,none⟩=some (.int .i64 (plO O q))):=h! (fun q h1 h2=>by
  rw [hlx q.toNat h1]
  rw [getD_some (aBW (n:=nb) h2 h1)])
 have HOD:Hid (∀ (i b:Nat),O[i]? = some b -> w1.cell? ⟨ob,oo+i,none⟩=some (.int .i64 (b:Int))):=h! (fun i b hi=>by
  rw [hox i (by rw [hno];exact (aD.1 hi).1)]
  rw [getD_some (x:=(b:Int)) (by unfold natI;rw [aM,hi];rfl)])
 have HPL64:Hid (∀ q:Int,q.toNat ∈ O -> In64 (plO O q)):=h! (fun q hq=>by
  have:=dI hq
  unfold plO
  exact ⟨by omega,by omega⟩)
 have HNM:Hid (Named np (idsO f O)):=h! (by rw [HNP.out];exact zN HC0.out hO HALL.out)
 have HSM:Hid (np+(idsO f O).length <= 4112):=h! (by rw [HNP.out];exact sW HC0.out hO HALL.out)
 have hnp4:np <= 4112:=by have:=HSM.out;omega
 obtain ⟨rn,hrn⟩ : ∃ rn,rn=renV np (idsO f O):=⟨_,rfl⟩
 have HRN:=h! hrn
 have HR64:Hid (∀ v,In64 (rn v)):=h! (fun v=>by rw [hrn];exact rD (wF (by have:=HSM.out;omega)) v)
 have HOLD:Hid (Holds [] 0 w1 (fun k=>k < w1.heap.size) (OldK w1)):=h! (zE w1)
 have hbgl:bg < w1.heap.size:=hbg.lt
 clear hpv hov hlv hlx hox hla hoa hbg hno hrn h0O hO e0
 clear lB1 cB1 fB1 lB2 cB2 fB2
 replace B1:=h! (B1.out.later hb)
 replace B2:=h! (B2.out.later hb)
 replace HW:=h! (HW.out.trans (hb.mono HW.out.size))
 clear hb
 obtain ⟨lB1,cB1,fB1⟩:=B1.out
 obtain ⟨lB2,cB2,fB2⟩:=B2.out
 go_wp2_with fail
 refine (aCW (HV.out.below HW.out) HSZ.out.1 HSZ.out.2).mono ?_
 rintro e w2 ⟨vo,SO0,rfl,hOF,hFr,hb⟩
 obtain ⟨⟨pa,bv,SQ,SB,rfl,hQ,hOB,hQB,hsq,hsb⟩,hlt,h64a,h64c⟩:=hOF
 obtain ⟨pa2,pc2,rfl⟩:=hQ.ints.form
 have H64:=h! (And.intro h64a h64c)
 have hl1:w.heap.size+1+1 <= w1.heap.size:=lB2
 have HQ:Hid (Holds [w.heap.size,w.heap.size+1] w1.heap.size w2 SQ (fun W=>eV W SQ (.slice pa2 np pc2) f.params)):=h! (by
  have h9:=(iF hQ (fun k hk=>hFr k (hsq k hk))).low (bs':=[w.heap.size,w.heap.size+1]) (by intro z hz;simp at hz;omega)
  rw [<-HNP.out] at h9;exact h9)
 have HSB:Hid ((∀ k,SB k -> w1.heap.size <= k/\k < w2.heap.size)/\SQ.off SB /\ ∀ k,SQ k -> k < w2.heap.size):=h! ⟨fun k hk=>⟨hFr k (hsb k hk),hOB.lt k hk⟩,hQB,hQ.lt⟩
 obtain ⟨cs,G,F,hp⟩:=hOB
 obtain ⟨g,cap,hbv,hGg, -, -,hgl, -, -⟩:=hp.row.addr (by have:=HNB.out;omega)
 rw [<-HNB.out] at hbv
 subst hbv
 have HP:Hid (Holds [w.heap.size,w.heap.size+1] w1.heap.size w2 SB (fun W=>OParts OBlock 63 6 W SB (.slice (some ⟨g,0,none⟩) nb cap) f.blocks cs G F)):=h! ⟨hp,fun _ _ h hk=>h.keep OBlock.nice hk,hp.lt,fun k hk=>(HSB.out.1 k hk).1,fun k hk=>by have:=(HSB.out.1 k hk).1;simp;omega⟩
 have HGG:=h! (hp.inG g hGg)
 have HGG0:=h! hGg
 rw [<-HAC.out.1, <-HAC.out.2, <-HNP.out]
 clear hQ hp hQB hsq hsb hlt hFr hGg h64a h64c
 have hz12:w1.heap.size <= w2.heap.size:=hb.size
 clear lB1 cB1 fB1 lB2 cB2 fB2
 replace B1:=h! (B1.out.later hb)
 replace B2:=h! (B2.out.later hb)
 replace HOLD:=h! (HOLD.out.later hb)
 replace HW:=h! (HW.out.trans (hb.mono HW.out.size))
 clear hb
 obtain ⟨lB1,cB1,fB1⟩:=B1.out
 obtain ⟨lB2,cB2,fB2⟩:=B2.out
 go_upto_region 5 with (fail)
 replace HQ:=h! ((HQ.out.more (aA _)).more (b:=w2.heap.size+1) (Nat.le_succ _))
 replace HP:=h! ((HP.out.more (aA _)).more (b:=w2.heap.size+1) (Nat.le_succ _))
 have nB4B1:w2.heap.size ≠ w.heap.size:=fun e=>by have:=lB1;omega
 have nB1B4:w.heap.size ≠ w2.heap.size:=fun e=>nB4B1 e.symm
 have nB4B2:w2.heap.size ≠ w.heap.size+1:=fun e=>by have:=lB2;omega
 have nB2B4:w.heap.size+1 ≠ w2.heap.size:=fun e=>nB4B2 e.symm
 have nB5B1:w2.heap.size+1 ≠ w.heap.size:=fun e=>by have:=lB1;omega
 have nB1B5:w.heap.size ≠ w2.heap.size+1:=fun e=>nB5B1 e.symm
 have nB5B2:w2.heap.size+1 ≠ w.heap.size+1:=fun e=>by have:=lB2;omega
 have nB2B5:w.heap.size+1 ≠ w2.heap.size+1:=fun e=>nB5B2 e.symm
 have nB5B4:w2.heap.size+1 ≠ w2.heap.size:=by omega
 have nB4B5:w2.heap.size ≠ w2.heap.size+1:=by omega
 clear lB1 cB1 fB1 lB2 cB2 fB2
 have hA_:=(Below.refl w2.heap.size w2).alloc (aA _) (.cells #[.slice pa2 np pc2,.int .i64 ar,.int .i64 ce,.slice (some ⟨g,0,none⟩) nb cap] 25)
 replace B1:=h! (B1.out.later hA_)
 replace B2:=h! (B2.out.later hA_)
 replace HOLD:=h! (HOLD.out.later hA_)
 replace HQ:=h! (HQ.out.later hA_)
 replace HP:=h! (HP.out.later hA_)
 replace HW:=h! (HW.out.trans (hA_.mono HW.out.size))
 clear hA_
 have B4:=h! (Box.new w2 #[.slice pa2 np pc2,.int .i64 ar,.int .i64 ce,.slice (some ⟨g,0,none⟩) nb cap] 25)
 have hz0_:(w2.alloc (.cells #[.slice pa2 np pc2,.int .i64 ar,.int .i64 ce,.slice (some ⟨g,0,none⟩) nb cap] 25)).heap.size=w2.heap.size+1:=World.size_alloc _ _
 generalize w2.alloc (.cells #[.slice pa2 np pc2,.int .i64 ar,.int .i64 ce,.slice (some ⟨g,0,none⟩) nb cap] 25)=w4x0 at *
 have hA_:=(Below.refl w4x0.heap.size w4x0).alloc (aA _) (.cells #[.slice pa2 np pc2,.int .i64 ar,.int .i64 ce,.slice none 0 0] 25)
 replace B1:=h! (B1.out.later hA_)
 replace B2:=h! (B2.out.later hA_)
 replace B4:=h! (B4.out.later hA_)
 replace HOLD:=h! (HOLD.out.later hA_)
 replace HQ:=h! (HQ.out.later hA_)
 replace HP:=h! (HP.out.later hA_)
 replace HW:=h! (HW.out.trans (hA_.mono HW.out.size))
 clear hA_
 have B5:=h! (Box.new w4x0 #[.slice pa2 np pc2,.int .i64 ar,.int .i64 ce,.slice none 0 0] 25)
 rw [hz0_] at B5
 clear hz0_
 generalize w4x0.alloc (.cells #[.slice pa2 np pc2,.int .i64 ar,.int .i64 ce,.slice none 0 0] 25)=w4 at *
 obtain ⟨lB1,cB1,fB1⟩:=B1.out
 obtain ⟨lB2,cB2,fB2⟩:=B2.out
 obtain ⟨lB4,cB4,fB4⟩:=B4.out
 obtain ⟨lB5,cB5,fB5⟩:=B5.out
 have hz4:w2.heap.size+1 < w4.heap.size:=lB5
 obtain ⟨b4,hb4⟩ : ∃ b4,b4=w2.heap.size:=⟨_,rfl⟩
 rw [<-hb4] at HQ HP HSB B4 B5 hz12 hz4 hgl
 simp only [<-hb4]
 clear hb4
 have hmm:=@run_makeMap Tryz.prog
 go_upto_region 6 with (fail)
 clear hmm
 have HI:=h! (IMap.new w4)
 have hbM:=(Below.refl w4.heap.size w4).alloc (aA _) (.map #[] 0)
 clear lB1 cB1 fB1 lB2 cB2 fB2 lB4 cB4 fB4 lB5 cB5 fB5
 replace B1:=h! (B1.out.later hbM)
 replace B2:=h! (B2.out.later hbM)
 replace B4:=h! (B4.out.later hbM)
 replace B5:=h! (B5.out.later hbM)
 replace HOLD:=h! (HOLD.out.later hbM)
 replace HQ:=h! (HQ.out.later hbM)
 replace HP:=h! (HP.out.later hbM)
 replace HW:=h! (HW.out.trans (hbM.mono HW.out.size))
 clear hbM
 obtain ⟨lB1,cB1,fB1⟩:=B1.out
 obtain ⟨lB2,cB2,fB2⟩:=B2.out
 obtain ⟨lB4,cB4,fB4⟩:=B4.out
 obtain ⟨lB5,cB5,fB5⟩:=B5.out
 obtain ⟨mb,hmb⟩ : ∃ mb,mb=w4.heap.size:=⟨_,rfl⟩
 rw [<-hmb] at HI hz4
 simp only [<-hmb]
 have hs5:(w4.alloc (.map #[] 0)).heap.size=mb+1:=by rw [World.size_alloc,hmb]
 clear hmb
 generalize w4.alloc (.map #[] 0)=w5 at *
 have hm5:mb < w5.heap.size:=HI.out.lt
 have nB6B1:w5.heap.size ≠ w.heap.size:=fun e=>by have:=lB1;omega
 have nB1B6:w.heap.size ≠ w5.heap.size:=fun e=>nB6B1 e.symm
 have nB6B2:w5.heap.size ≠ w.heap.size+1:=fun e=>by have:=lB2;omega
 have nB2B6:w.heap.size+1 ≠ w5.heap.size:=fun e=>nB6B2 e.symm
 have nB6B4:w5.heap.size ≠ b4:=fun e=>by have:=lB4;omega
 have nB4B6:b4 ≠ w5.heap.size:=fun e=>nB6B4 e.symm
 have nB6B5:w5.heap.size ≠ b4+1:=fun e=>by have:=lB5;omega
 have nB5B6:b4+1 ≠ w5.heap.size:=fun e=>nB6B5 e.symm
 clear lB1 cB1 fB1 lB2 cB2 fB2 lB4 cB4 fB4 lB5 cB5 fB5
 have hA_:=(Below.refl w5.heap.size w5).alloc (aA _) (.cells #[.map (some mb)] 93)
 replace B1:=h! (B1.out.later hA_)
 replace B2:=h! (B2.out.later hA_)
 replace B4:=h! (B4.out.later hA_)
 replace B5:=h! (B5.out.later hA_)
 replace HOLD:=h! (HOLD.out.later hA_)
 replace HQ:=h! (HQ.out.later hA_)
 replace HP:=h! (HP.out.later hA_)
 replace HI:=h! (HI.out.later hA_)
 replace HW:=h! (HW.out.trans (hA_.mono HW.out.size))
 clear hA_
 have B6:=h! (Box.new w5 #[.map (some mb)] 93)
 generalize w5.alloc (.cells #[.map (some mb)] 93)=w6 at *
 obtain ⟨lB1,cB1,fB1⟩:=B1.out
 obtain ⟨lB2,cB2,fB2⟩:=B2.out
 obtain ⟨lB4,cB4,fB4⟩:=B4.out
 obtain ⟨lB5,cB5,fB5⟩:=B5.out
 obtain ⟨lB6,cB6,fB6⟩:=B6.out
 obtain ⟨b6,hb6⟩ : ∃ b6,b6=mb+1:=⟨_,rfl⟩
 rw [hs5, <-hb6] at B6
 rw [hs5, <-hb6] at hm5
 simp only [<-hb6]
 clear hb6 hs5
 have hz6:b6 < w6.heap.size:=B6.out.lt
 clear nB6B1 nB1B6 nB6B2 nB2B6 nB6B4 nB4B6 nB6B5 nB5B6 nB4B1 nB1B4 nB4B2 nB2B4 nB5B1 nB1B5 nB5B2 nB2B5 nB5B4 nB4B5
 go_wp2_with fail
 clear lB1 cB1 fB1 lB2 cB2 fB2 lB4 cB4 fB4 lB5 cB5 fB5 lB6 cB6 fB6
 go_loopw [36] (fun iv wr => ∃ j:Nat,j <= np/\iv = .int .i64 j/\IMap wr mb (encT (parJ j))/\Turn [mb] w6 wr) (fun iv _=>np - (intOf iv).toNat)
 case atStart=>exact ⟨0,aJ _,rfl,HI.out,Turn.refl _ _⟩
 obtain ⟨j,hj,rfl,hI,hT⟩:=hrel
 replace HI:=h! hI
 have HT:=h! hT
 clear hI hT
 generalize wr=w7 at *
 have HOFJ:Hid (Off (Foot.one mb) w6 w7):=h! HT.out.off
 replace B6:=h! (B6.out.off HOFJ.out (fun h=>by have e:b6=mb:=h;omega))
 by_cases hlt:j < np
 ·skip
  obtain ⟨lB6,cB6,fB6⟩:=B6.out
  go_wp2_with (at_mapUpdate;refine fT (q:=.i64) (b:=mb) (mm:=encT (parJ j)) (y:=j) rfl _ _ _ _ (.inl rfl) Tryz.underlying93 Tryz.underlying3 rfl HI.out rfl ?_;intro w9 hm2 hz2 ht2;have HP9:=h! hm2;have HTT:=h! ht2;clear hm2 hz2 ht2)
  go_roundw
  case rel=>exact ⟨j+1,hlt,by go_num,by rw [<-zI];exact HP9.out,HT.out.trans HTT.out⟩
  simp [intOf];omega
 obtain rfl:np=j:=by omega
 replace HI:Hid (IMap w7 mb (encT (fC np []))):=h! (by rw [zJ];exact HI.out)
 replace HW:=h! (HW.out.trans (HOFJ.out.below HW.out.size (fun k _ hk=>by cases hk;omega)))
 replace B1:=h! (B1.out.off HOFJ.out (fun h=>by have e:w.heap.size=mb:=h;omega))
 replace B2:=h! (B2.out.off HOFJ.out (fun h=>by have e:w.heap.size+1=mb:=h;omega))
 replace B4:=h! (B4.out.off HOFJ.out (fun h=>by have e:b4=mb:=h;omega))
 replace B5:=h! (B5.out.off HOFJ.out (fun h=>by have e:b4+1=mb:=h;omega))
 replace HOLD:=h! (HOLD.out.off HOFJ.out (fun k h1 h2=>by cases h2;omega))
 replace HQ:=h! (HQ.out.off HOFJ.out (fun k h1 h2=>by cases h2;have:=HSB.out.2.2 mb h1;omega))
 replace HP:=h! (HP.out.off HOFJ.out (fun k h1 h2=>by cases h2;have:=HSB.out.1 mb h1;omega))
 have hz7:b6 < w7.heap.size:=B6.out.lt
 clear HT HOFJ hz6
 obtain ⟨lB1,cB1,fB1⟩:=B1.out
 obtain ⟨lB2,cB2,fB2⟩:=B2.out
 obtain ⟨lB4,cB4,fB4⟩:=B4.out
 obtain ⟨lB5,cB5,fB5⟩:=B5.out
 obtain ⟨lB6,cB6,fB6⟩:=B6.out
 obtain ⟨lG,cG,fG⟩:=HOLD.out.now.box HBG.out
 go_wp2_with fail
 clear lG cG fG
 clear lB1 cB1 fB1 lB2 cB2 fB2 lB4 cB4 fB4 lB5 cB5 fB5 lB6 cB6 fB6
 --@A
 have HP7:=HP
 have HQ7:=HQ
 clear HP HQ
 go_loopw [49] (fun iv wr => ∃ (i:Nat) (SO:Foot) (ao:Option Addr) (co:Nat),i <= no/\iv = .int .i64 i/\OffF (fun k=>k=mb \/ k=b4+1 \/ ∃ d,d ∈ O.take i/\F d k) w7 wr/\IMap wr mb (encT (fC np (idsO f (O.take i))))/\Box wr (b4+1) #[.slice pa2 np pc2,.int .i64 ar,.int .i64 ce,.slice ao i co] /\
   Holds [w.heap.size,w.heap.size+1,b4,b4+1,mb,b6] w1.heap.size wr SO (fun W=>eX W SO (.slice ao i co) ((O.take i).map fun b=>idB rn O (kQ f b))) /\ ∀ k,SO k -> (∃ d,d ∈ O.take i/\F d k) \/ w7.heap.size <= k) (fun iv _=>no - (intOf iv).toNat)
 case atStart=>exact ⟨0,Foot.none,none,0,aJ _,rfl,Off.refl _ _,HI.out,B5.out,⟨OSl.nil none,fun _ _ h hk=>h.keep OBlock.nice hk,fun k h=>h.elim,fun k h=>h.elim,fun k h=>h.elim⟩,fun k h=>h.elim⟩
 obtain ⟨i,SO,ao,co,hi,rfl,hof,hI,hb5,hso,hsk⟩:=hrel
 have HOF:=h! hof
 replace HI:=h! hI
 replace B5:=h! hb5
 have HSO:=h! hso
 have HSK:=h! hsk
 clear hof hI hb5 hso hsk
 have HFB:Hid (∀ d,d ∈ O -> ∀ k,F d k -> SB k):=h! (fun d hd k hk=>HP7.out.now.inF d k (HO.out.facts.2.2.1 d hd) hk)
 have HDB:Hid (∀ k,(k=mb \/ k=b4+1 \/ ∃ d,d ∈ O.take i/\F d k) -> w1.heap.size <= k/\(k < b4 \/ k=mb \/ k=b4+1) /\ ¬ SQ k):=h! (fun k hk=>by
  rcases hk with rfl | rfl | ⟨d,hd,hk⟩
  ·exact ⟨by omega,.inr (.inl rfl),fun h=>by have:=HSB.out.2.2 _ h;omega⟩
  ·exact ⟨by omega,.inr (.inr rfl),fun h=>by have:=HSB.out.2.2 _ h;omega⟩
  have h1:=HFB.out d (cQ hd) k hk
  have h2:=HSB.out.1 k h1
  exact ⟨h2.1,.inl h2.2,fun h=>HSB.out.2.1 k h h1⟩)
 replace HW:=h! (HW.out.trans (Off.below HOF.out HW.out.size (fun k _ hk=>by have:=(HDB.out k hk).1;omega)))
 replace B2:=h! (B2.out.off HOF.out (fun h=>by have:=(HDB.out _ h).1;omega))
 replace B4:=h! (B4.out.off HOF.out (fun h=>by have:=(HDB.out _ h).2.1;omega))
 replace B6:=h! (B6.out.off HOF.out (fun h=>by have:=(HDB.out _ h).2.1;omega))
 replace HOLD:=h! (HOLD.out.off HOF.out (fun k h1 h2=>by have:=(HDB.out k h2).1;omega))
 generalize wr=w8 at *
 have hw78:w7.heap.size <= w8.heap.size:=Off.size HOF.out
 --@G0
 by_cases hlt:i < no
 ·obtain ⟨b,hOb⟩ : ∃ b,O[i]? = some b:=⟨_,aC (by rw [<-HNO.out];exact hlt)⟩
  --@G6
  have hbO:b ∈ O:=aG hOb
  have hbl:b < nb:=by rw [HNB.out];exact HO.out.facts.2.2.1 b hbO
  obtain ⟨x,hx⟩ : ∃ x,f.blocks[b]? = some x:=⟨_,aC (by rw [<-HNB.out];exact hbl)⟩
  have HBX:Hid (kQ f b=x):=h! (nF hx)
  --@G7
  have hnt:b ∉ O.take i:=aBY HO.out.facts.1 hOb
  have hblf:b < f.blocks.length:=by rw [<-HNB.out];exact hbl
  --@G5
  have hFD:∀ k,F b k -> ¬ (k=mb \/ k=b4+1 \/ ∃ d,d ∈ O.take i/\F d k):=fun k h1 h2=>by
   have h3:=HSB.out.1 k (HFB.out b hbO k h1)
   rcases h2 with e | e | ⟨d,hd,h2⟩
   ·omega
   ·omega
   exact HP7.out.now.apart b d hblf (HO.out.facts.2.2.1 d (cQ hd)) (fun e=>hnt (e ▸ hd)) k h1 h2
  --@G1
  have hgs:=HSB.out.1 g HGG.out
  have hgD:¬ (g=mb \/ g=b4+1 \/ ∃ d,d ∈ O.take i/\F d g):=fun h2=>by
   rcases h2 with e | e | ⟨d,hd,h2⟩
   ·omega
   ·omega
   exact HP7.out.now.free d (HO.out.facts.2.2.1 d (cQ hd)) g h2 HGG0.out
  --@G2
  have hel:=OBlock.nice.off (HP7.out.now.el b x hx) HOF.out hFD
  obtain ⟨apx,aix,atx,cpx,cix,ctx,S1,S2,S3,hch,h1,h2,h3,h12,h13,h23,i1,i2,i3,q1,q2,q3,hclo⟩:=hel.parts
  obtain ⟨g',cap',hbv, -, -, -, -,hcell,hfr⟩:=HP7.out.now.row.addr (by omega)
  obtain ⟨rfl,rfl⟩ : g=g' /\ cap=cap':=by injection hbv with h1 h2 h3;injection h1 with h1;injection h1 with h1;exact ⟨h1,h3⟩
  have hg7:g < w7.heap.size:=by omega
  have hc:∀ o u,o < 6 -> (iO cs 6 b)[o]? = some u -> w8.cell? ⟨g,b * 6+o,none⟩=some u:=fun o u ho hu=>(Off.cell HOF.out hg7 hgD).trans (hcell _ _ (by rw [<-jI ho];exact hu))
  rw [hch] at hc
  have k0:=hc 0 _ (by omega) rfl
  have k1:=hc 1 _ (by omega) rfl
  have k2:=hc 2 _ (by omega) rfl
  have k3:=hc 3 _ (by omega) rfl
  have k4:=hc 4 _ (by omega) rfl
  have k5:=hc 5 _ (by omega) rfl
  rw [eK] at k0
  have ko:=(HOLD.out.now.cell how).trans (HOD.out i b hOb)
  have HSZX:=h! (HSZ.out.1 x (aG hx))
  have HTO:=h! (nX HF.out hx)
  --@G3
  obtain ⟨npx,hnpx⟩ : ∃ n,n=x.phis.length:=⟨_,rfl⟩
  obtain ⟨ncx,hncx⟩ : ∃ n,n=x.code.length:=⟨_,rfl⟩
  obtain ⟨ntx,hntx⟩ : ∃ n,n=x.term.to.length:=⟨_,rfl⟩
  rw [<-hnpx] at k0 h1 hclo hch
  rw [<-hncx] at k1 h2 hclo hch
  rw [<-hntx] at k4 h3 hclo hch
  have HNPX:=h! hnpx
  have HNCX:=h! hncx
  have HNTX:=h! hntx
  have hnpb:npx <= 100000:=by rw [hnpx];exact HSZX.out.1
  have hncb:ncx <= 100000:=by rw [hncx];exact HSZX.out.2
  have hntb:ntx <= 17592186044416:=by have h9:=h3.1.big;rw [<-hntx] at h9;exact h9
  have HCH:=h! hch
  have HCLO:=h! hclo
  have H12:=h! (And.intro h12 (And.intro h13 h23))
  have HIS:=h! (And.intro i1 (And.intro i2 i3))
  have HFS:Hid (∀ k,F b k -> w1.heap.size <= k/\k < b4):=h! (fun k hk=>HSB.out.1 k (HFB.out b hbO k hk))
  have HFD:=h! hFD
  have HX:=h! hx
  have HOB:=h! hOb
  have HBO:=h! hbO
  have H1:Hid (Holds [] w1.heap.size w8 S1 (fun W=>gI W S1 (.slice apx npx cpx) x.phis)):=h! (mY OPhi.nice h1 (fun k hk=>(HFS.out k (i1 k hk)).1))
  have H2:Hid (Holds [] w1.heap.size w8 S2 (fun W=>iN W S2 (.slice aix ncx cix) x.code)):=h! (mY OInstr.nice h2 (fun k hk=>(HFS.out k (i2 k hk)).1))
  have H3:Hid (Holds [] w1.heap.size w8 S3 (fun W=>eV W S3 (.slice atx ntx ctx) x.term.to)):=h! (iF h3 (fun k hk=>(HFS.out k (i3 k hk)).1))
  --@G4
  obtain ⟨pre,hpre⟩ : ∃ pre,pre=idsO f (O.take i):=⟨_,rfl⟩
  obtain ⟨post,hpost⟩:=zF (f:=f) hOb
  rw [HBX.out,rE, <-hpre] at hpost
  have HNMX:Hid (Named np (pre ++ (fU x.phis ++ fI x.code) ++ post)):=h! (by rw [<-hpost];exact HNM.out)
  have HRNX:Hid (rn=renV np (pre ++ (fU x.phis ++ fI x.code) ++ post)):=h! (by rw [<-hpost];exact HRN.out)
  have HSMX:Hid (np+(pre ++ (fU x.phis ++ fI x.code) ++ post).length <= 4112):=h! (by rw [<-hpost];exact HSM.out)
  have HPRE:=h! hpre
  rw [<-hpre] at HI
  clear hbv hcell hc hel hx hOb hFD hgD hfr hch h1 h2 h3 h12 h13 h23 i1 i2 i3 q1 q2 q3 hclo hnpx hncx hntx hpre hpost hbO hnt hgs
  obtain ⟨lB4,cB4,fB4⟩:=B4.out
  obtain ⟨lB5,cB5,fB5⟩:=B5.out
  obtain ⟨lB6,cB6,fB6⟩:=B6.out
  --@B0
  go_upto_region 16 with (fail)
  --@B1
  have nBLB4:w8.heap.size ≠ b4:=fun e=>by have:=lB4;omega
  have nB4BL:b4 ≠ w8.heap.size:=fun e=>nBLB4 e.symm
  have nBLB5:w8.heap.size ≠ b4+1:=fun e=>by have:=lB5;omega
  have nB5BL:b4+1 ≠ w8.heap.size:=fun e=>nBLB5 e.symm
  have nBLB6:w8.heap.size ≠ b6:=fun e=>by have:=lB6;omega
  have nB6BL:b6 ≠ w8.heap.size:=fun e=>nBLB6 e.symm
  clear lB4 cB4 fB4 lB5 cB5 fB5 lB6 cB6 fB6
  have hA_:=(Below.refl w8.heap.size w8).alloc (aA _) (.cells #[.slice apx npx cpx,.slice aix ncx cix,.int .i64 x.term.op,.int .i64 x.term.val,.slice atx ntx ctx,.int .i64 x.term.n] 63)
  replace B4:=h! (B4.out.later hA_)
  replace B5:=h! (B5.out.later hA_)
  replace B6:=h! (B6.out.later hA_)
  replace HOF:=h! (HOF.out.later hA_)
  replace HI:=h! (HI.out.later hA_)
  replace HSO:=h! (HSO.out.later hA_)
  replace HOLD:=h! (HOLD.out.later hA_)
  replace H1:=h! (H1.out.later hA_)
  replace H2:=h! (H2.out.later hA_)
  replace H3:=h! (H3.out.later hA_)
  replace HW:=h! (HW.out.trans (hA_.mono HW.out.size))
  clear hA_
  have BL:=h! (Box.new w8 #[.slice apx npx cpx,.slice aix ncx cix,.int .i64 x.term.op,.int .i64 x.term.val,.slice atx ntx ctx,.int .i64 x.term.n] 63)
  generalize w8.alloc (.cells #[.slice apx npx cpx,.slice aix ncx cix,.int .i64 x.term.op,.int .i64 x.term.val,.slice atx ntx ctx,.int .i64 x.term.n] 63)=w9 at *
  obtain ⟨lB4,cB4,fB4⟩:=B4.out
  obtain ⟨lB5,cB5,fB5⟩:=B5.out
  obtain ⟨lB6,cB6,fB6⟩:=B6.out
  obtain ⟨lBL,cBL,fBL⟩:=BL.out
  clear k0 k1 k2 k3 k4 k5 ko
  clear lB4 cB4 fB4 lB5 cB5 fB5 lB6 cB6 fB6 lBL cBL fBL
  obtain ⟨bl,hbl2⟩ : ∃ bl,bl=w8.heap.size:=⟨_,rfl⟩
  have HBL8:Hid (w8.heap.size <= bl):=h! (by omega)
  rw [<-hbl2] at BL hw78
  simp only [<-hbl2]
  clear hbl2
  obtain ⟨lB4,cB4,fB4⟩:=B4.out
  obtain ⟨lB5,cB5,fB5⟩:=B5.out
  obtain ⟨lB6,cB6,fB6⟩:=B6.out
  obtain ⟨lBL,cBL,fBL⟩:=BL.out
  --@B2
  go_wp2_with fail
  clear lB4 cB4 fB4 lB5 cB5 fB5 lB6 cB6 fB6 lBL cBL fBL
  --@B
  have HZM:Hid (w1.heap.size <= mb/\w1.heap.size <= w9.heap.size):=h! ⟨by omega,by have:=BL.out.lt;omega⟩
  have HNO7:Hid (bl ≠ mb/\b6 ≠ mb /\ ¬ S1 bl /\ ¬ S1 b6 /\ ¬ S2 bl /\ ¬ S2 b6 /\ ¬ S3 bl/\(∀ q,S1 q -> q < b4)/\(∀ q,S2 q -> q < b4)/\(∀ q,S3 q -> q < b4)):=h! (by
   have e1:=fun q h=>(HFS.out q (HIS.out.1 q h)).2
   have e2:=fun q h=>(HFS.out q (HIS.out.2.1 q h)).2
   have e3:=fun q h=>(HFS.out q (HIS.out.2.2 q h)).2
   exact ⟨by omega,by omega,fun h=>by have:=e1 _ h;omega,fun h=>by have:=e1 _ h;omega,fun h=>by have:=e2 _ h;omega,fun h=>by have:=e2 _ h;omega,fun h=>by have:=e3 _ h;omega,e1,e2,e3⟩)
  go_loopw [61] (fun kv wr => ∃ k:Nat,k <= npx/\kv = .int .i64 k/\gI wr S1 (.slice apx npx cpx) (gJ (idP rn) x.phis k)/\IMap wr mb (encT (fC np (pre ++ fU (x.phis.take k))))/\Off (fun q=>q=mb \/ S1 q) w9 wr) (fun kv _=>npx - (intOf kv).toNat)
  case atStart=>exact ⟨0,aJ _,rfl,by rw [gN];exact H1.out.now,by rw [show pre ++ fU (x.phis.take 0)=pre from bR _];exact HI.out,Off.refl _ _⟩
  obtain ⟨k,hk,rfl,hol,hI,ho⟩:=hrel
  have HOL:=h! hol
  have HIK:=h! hI
  have HOK:=h! ho
  clear hol hI ho
  have BLR:Hid (Box wr bl #[.slice apx npx cpx,.slice aix ncx cix,.int .i64 x.term.op,.int .i64 x.term.val,.slice atx ntx ctx,.int .i64 x.term.n]):=h! (BL.out.off HOK.out (fun h=>h.elim HNO7.out.1 HNO7.out.2.2.1))
  have B6R:Hid (Box wr b6 #[.map (some mb)]):=h! (B6.out.off HOK.out (fun h=>h.elim HNO7.out.2.1 HNO7.out.2.2.2.1))
  by_cases hlt2:k < npx
  ·obtain ⟨p,hp⟩ : ∃ p,x.phis[k]? = some p:=⟨_,aC (by rw [<-HNPX.out];exact hlt2)⟩
   obtain ⟨g1,cap1,af,av,cf,cv,Sv,hv,hgl1,hSg,hPC,hfr1, -, -, -, -⟩:=gI.vals HOL.out (j:=k) (p:=p) (by rw [gZ];exact hp)
   rw [eY, <-HNPX.out] at hv
   injection hv with e1 e2 e3
   subst e1
   subst e3
   obtain ⟨hnone,hnext,hval⟩:=aBX HNMX.out hp
   rw [<-HRNX.out] at hval
   obtain ⟨T,hT⟩ : ∃ T,T=fC np (pre ++ fU (x.phis.take k)):=⟨_,rfl⟩
   rw [<-hT] at hnone hnext hval HIK
   obtain ⟨tn,htn⟩ : ∃ tn,tn=T.length:=⟨_,rfl⟩
   rw [<-htn] at hnext hval
   have HNONE:=h! hnone
   have HNEXT:=h! hnext
   have HVAL:=h! hval
   have HTN:=h! htn
   have HTT:=h! hT
   have HP:=h! hp
   have HM0:=h! hPC.c0
   have HFR1:=h! hfr1
   have HSG:=h! hSg
   have hg4:g1 < b4:=HNO7.out.2.2.2.2.2.2.2.1 g1 hSg
   clear hnone hnext hval htn hT hp hPC hfr1 hSg e2
   have HNG:Hid (¬ Foot.one mb g1):=h! (fun h=>by have e:g1=mb:=h;omega)
   --@C1
   go_upto_region 19 with (fail)
   --@C2
   refine qB 13 10 (fun q=>q=mb) (.int .i64 (tn:Int)) (fun W=>IMap W mb (encT (T ++ [(p.id,(tn:Int))]))/\Off (Foot.one mb) wr W) (fun _ _=>False) (by kernel_rfl) (by kernel_rfl) (by omega) (fun W W' h hb=>⟨h.1.later hb,h.2.trans (Off.of_below hb _)⟩) (fun ch a' w' _ hz=>hz.elim) ?_
   --@C5
   simp only [aQ,aU,aT,aY]
   --@C6
   iterate 10 ((refine kR.val (v' := ?_) (by omega) rfl (fun wg hbg => ?_) ?_);(rotate_left);(focus ((have hof:Off (Foot.one mb) wr wg:=hbg.elim (fun h=>Off.of_below h _) (fun h=>h.2));(obtain ⟨lL,cL,fL⟩:=BLR.out.off hof (fun h=>HNO7.out.1 h));(have m0:=(hof.cellA (p:=⟨g1,k * 4,none⟩) hgl1 HNG.out).trans HM0.out);clear hof hbg;first | (go_simp;done) | (go_simp;with_reducible rfl)));(simp only [Act.put,aB,aE,aF]))
   have eg1:∀ (args:Array Value) (w:World),(callFunc 73 args).run Tryz.prog w = .ok (.enter 73 args) w:=pF
   --@C3
   refine kR.call (f := ?_) (args := ?_) (by omega) rfl (fun wg => ?_) (fun wg hbg => ?_) ?_
   rotate_left 2
   focus (first | (go_simp;done) | (go_simp;refine And.intro ?_ ?_ <;> with_reducible rfl) | (go_simp;with_reducible rfl))
   ·refine (aCZ (B6R.out.later hbg) (HIK.out.later hbg) HNONE.out HNO7.out.2.1).mono ?_
    rintro e w2 ⟨rfl,h1,h2⟩
    rw [<-HTN.out] at h1 ⊢
    exact .inl ⟨rfl,h1,(Off.of_below hbg _).trans h2.off⟩
   simp only [Act.put,aB,aE,aF]
   clear eg1
   iterate 2 ((refine kR.val (v' := ?_) (by omega) rfl (fun wg hbg => ?_) ?_);(rotate_left);(focus ((have hof:Off (Foot.one mb) wr wg:=hbg.elim (fun h=>Off.of_below h _) (fun h=>h.2));(obtain ⟨lL,cL,fL⟩:=BLR.out.off hof (fun h=>HNO7.out.1 h));(have m0:=(hof.cellA (p:=⟨g1,k * 4,none⟩) hgl1 HNG.out).trans HM0.out);clear hof hbg;first | (go_simp;done) | (go_simp;with_reducible rfl)));(simp only [Act.put,aB,aE,aF]))
   --@C4
   rintro w10 ⟨hi10,ho10⟩
   have hng:¬ Foot.one mb g1:=fun h=>by have e:g1=mb:=h;omega
   have m10:=(ho10.cellA (p:=⟨g1,k * 4,none⟩) hgl1 hng).trans HM0.out
   have fz10:∀ o,w10.frozen? ⟨g1,o,none⟩=false:=fun o=>(ho10.frozenA (p:=⟨g1,o,none⟩) hgl1 hng).trans (HFR1.out o)
   have HNX:Hid (gI (w10.setCell ⟨g1,k * 4,none⟩ (.int .i64 (tn:Int))) S1 (.slice (some ⟨g1,0,none⟩) npx cpx) (gJ (idP rn) x.phis (k+1))):=h! (by
    have h9:=gI.ident (HOL.out.off OPhi.nice ho10 (fun q h1 h2=>by cases h2;have:=HNO7.out.2.2.2.2.2.2.2.1 _ h1;omega)) (j:=k) (p:=p) (by rw [gZ];exact HP.out) (g:=g1) (cap:=cpx) (by rw [eY, <-HNPX.out]) (y:=(tn:Int)) (by rw [<-HVAL.out];exact HR64.out _)
    rw [show ({ p with id:=(tn:Int) }:PhiD)=idP rn p by unfold idP;rw [HVAL.out],gU HP.out] at h9
    exact h9)
   have HNI:Hid (IMap (w10.setCell ⟨g1,k * 4,none⟩ (.int .i64 (tn:Int))) mb (encT (fC np (pre ++ fU (x.phis.take (k+1)))))):=h! (by
    rw [HNEXT.out]
    exact hi10.off (Off.set w10 ⟨g1,k * 4,none⟩ _) (fun h=>by have e:mb=g1:=h;omega))
   have HNO:Hid (Off (fun q=>q=mb \/ S1 q) w9 (w10.setCell ⟨g1,k * 4,none⟩ (.int .i64 (tn:Int)))):=h! ((HOK.out.trans (ho10.mono fun q _ hq=>.inl hq)).trans ((Off.set w10 ⟨g1,k * 4,none⟩ _).mono fun q _ hq=>.inr (by have e:q=g1:=hq;rw [e];exact HSG.out)))
   clear hi10 ho10 HM0 HFR1 HIK HOL BLR B6R
   go_wp2
   go_roundw
   case rel=>exact ⟨k+1,hlt2,by go_num,HNX.out,HNI.out,HNO.out⟩
   simp [intOf];omega
  obtain rfl:npx=k:=by omega
  have H1F:Hid (gI wr S1 (.slice apx npx cpx) (x.phis.map (idP rn))):=h! (by have h9:=HOL.out;rw [HNPX.out,iA, <-HNPX.out] at h9;exact h9)
  have HIF:Hid (IMap wr mb (encT (fC np (pre ++ fU x.phis)))):=h! (by have h9:=HIK.out;rw [aH (by rw [<-HNPX.out];exact aA _)] at h9;exact h9)
  have H2R:Hid (iN wr S2 (.slice aix ncx cix) x.code):=h! (H2.out.now.off OInstr.nice HOK.out (fun q h1 h2=>h2.elim (fun e=>by have:=HNO7.out.2.2.2.2.2.2.2.2.1 q h1;omega) (fun h=>H12.out.1 q h h1)))
  clear HOL HIK
  --@C
  generalize wr=wa at *
  obtain ⟨lBLR,cBLR,fBLR⟩:=BLR.out
  go_wp2_with fail
  clear lBLR cBLR fBLR
  go_loopw [81] (fun kv wr => ∃ k:Nat,k <= ncx/\kv = .int .i64 k/\iN wr S2 (.slice aix ncx cix) (gJ (idX rn) x.code k)/\IMap wr mb (encT (fC np ((pre ++ fU x.phis) ++ fI (x.code.take k))))/\Off (fun q=>q=mb \/ S2 q) wa wr) (fun kv _=>ncx - (intOf kv).toNat)
  case atStart=>exact ⟨0,aJ _,rfl,by rw [gN];exact H2R.out,by rw [show (pre ++ fU x.phis) ++ fI (x.code.take 0)=pre ++ fU x.phis from bR _];exact HIF.out,Off.refl _ _⟩
  obtain ⟨k,hk,rfl,hol,hI,ho⟩:=hrel
  have HOL:=h! hol
  have HIK:=h! hI
  have HOC:=h! ho
  clear hol hI ho
  have BLR2:Hid (Box wr bl #[.slice apx npx cpx,.slice aix ncx cix,.int .i64 x.term.op,.int .i64 x.term.val,.slice atx ntx ctx,.int .i64 x.term.n]):=h! (BLR.out.off HOC.out (fun h=>h.elim HNO7.out.1 HNO7.out.2.2.2.2.1))
  have B6R2:Hid (Box wr b6 #[.map (some mb)]):=h! (B6R.out.off HOC.out (fun h=>h.elim HNO7.out.2.1 HNO7.out.2.2.2.2.2.1))
  by_cases hlt2:k < ncx
  ·obtain ⟨y,hy⟩ : ∃ y,x.code[k]? = some y:=⟨_,aC (by rw [<-HNCX.out];exact hlt2)⟩
   obtain ⟨g1,cap1,aa,ca,Sa,hv,hgl1,hSg,hIC,hfr1, -, -, -, -⟩:=iN.open HOL.out (j:=k) (y:=y) (by rw [gZ];exact hy)
   rw [eY, <-HNCX.out] at hv
   injection hv with e1 e2 e3
   subst e1
   subst e3
   have m1:=hIC.c1
   have HM1:=h! m1
   have HFR1:=h! hfr1
   have HSG:=h! hSg
   have HY:=h! hy
   have HY64:=h! hIC.id64
   have hg4:g1 < b4:=HNO7.out.2.2.2.2.2.2.2.2.1 g1 hSg
   obtain ⟨lL,cL,fL⟩:=BLR2.out
   by_cases h0:0 <= y.id
   ·obtain ⟨hnone,hnext,hval⟩:=zG (pre:=pre ++ fU x.phis) (post:=post) (by have h9:=HNMX.out;rw [<-List.append_assoc] at h9;exact h9) hy h0
    have hrx:=HRNX.out
    rw [<-List.append_assoc] at hrx
    rw [<-hrx] at hval
    obtain ⟨T,hT⟩ : ∃ T,T=fC np (pre ++ fU x.phis ++ fI (x.code.take k)):=⟨_,rfl⟩
    rw [<-hT] at hnone hnext hval HIK
    obtain ⟨tn,htn⟩ : ∃ tn,tn=T.length:=⟨_,rfl⟩
    rw [<-htn] at hnext hval
    have HNONE:=h! hnone
    have HNEXT:=h! hnext
    have HVAL:=h! hval
    have HTN:=h! htn
    have HIDX:Hid (({ y with id:=(tn:Int) }:InstrD)=idX rn y):=h! (by unfold idX;rw [if_pos h0,hval])
    have hzz:decide (0 <= y.id)=true:=by simpa using h0
    have HCALL:Hid (Calls Tryz.prog 73 #[.int .i64 y.id,.pointer (some ⟨b6,0,none⟩)] wr fun e w'=>e = .returned (.int .i64 (tn:Int))/\IMap w' mb (encT (T ++ [(y.id,(tn:Int))]))/\Turn [mb] wr w'):=h! (by rw [HTN.out];exact aCZ B6R2.out HIK.out HNONE.out HNO7.out.2.1)
    have hng:¬ Foot.one mb g1:=fun h=>by have e:g1=mb:=h;omega
    have HNG:=h! hng
    have eg1:∀ (args:Array Value) (w:World),(callFunc 73 args).run Tryz.prog w = .ok (.enter 73 args) w:=pF
    clear h0 hy hIC hfr1 hSg e2 hnone hnext hval htn hT hrx hng
    go_wp2_with (go_at_fn 73;refine HCALL.out.mono ?_;rintro e w11 ⟨rfl,hi11,ht11⟩;have HI11:=h! hi11;have HO11:=h! ht11.off;have m11:=(HO11.out.cellA (p:=⟨g1,k * 4+1,none⟩) hgl1 HNG.out).trans HM1.out;have fz11:∀ o,w11.frozen? ⟨g1,o,none⟩=false:=fun o=>(HO11.out.frozenA (p:=⟨g1,o,none⟩) hgl1 HNG.out).trans (HFR1.out o);clear hi11 ht11 lL cL fL m1)
    clear eg1
    have HNX:Hid (iN (w11.setCell ⟨g1,k * 4+1,none⟩ (.int .i64 (tn:Int))) S2 (.slice (some ⟨g1,0,none⟩) ncx cix) (gJ (idX rn) x.code (k+1))):=h! (by
     have h9:=iN.ident (HOL.out.off OInstr.nice HO11.out (fun q h1 h2=>by cases h2;have:=HNO7.out.2.2.2.2.2.2.2.2.1 _ h1;omega)) (j:=k) (p:=y) (by rw [gZ];exact HY.out) (g:=g1) (cap:=cix) (by rw [eY, <-HNCX.out]) (y:=(tn:Int)) (by rw [<-HVAL.out];exact HR64.out _)
     rw [HIDX.out,gU HY.out] at h9
     exact h9)
    have HNI:Hid (IMap (w11.setCell ⟨g1,k * 4+1,none⟩ (.int .i64 (tn:Int))) mb (encT (fC np ((pre ++ fU x.phis) ++ fI (x.code.take (k+1)))))):=h! (by
     rw [HNEXT.out]
     exact HI11.out.off (Off.set w11 ⟨g1,k * 4+1,none⟩ _) (fun h=>by have e:mb=g1:=h;omega))
    have HNO:Hid (Off (fun q=>q=mb \/ S2 q) wa (w11.setCell ⟨g1,k * 4+1,none⟩ (.int .i64 (tn:Int)))):=h! ((HOC.out.trans (HO11.out.mono fun q _ hq=>.inl hq)).trans ((Off.set w11 ⟨g1,k * 4+1,none⟩ _).mono fun q _ hq=>.inr (by have e:q=g1:=hq;rw [e];exact HSG.out)))
    clear m11 fz11
    go_roundw
    case rel=>exact ⟨k+1,hlt2,by go_num,HNX.out,HNI.out,HNO.out⟩
    simp [intOf];omega
   have HSAME:Hid (idX rn y=y):=h! (by unfold idX;rw [if_neg h0])
   have hzz:decide (0 <= y.id)=false:=by simpa using h0
   have HNX:Hid (iN wr S2 (.slice (some ⟨g1,0,none⟩) ncx cix) (gJ (idX rn) x.code (k+1))):=h! (by rw [wG HY.out HSAME.out];exact HOL.out)
   have HNI:Hid (IMap wr mb (encT (fC np ((pre ++ fU x.phis) ++ fI (x.code.take (k+1)))))):=h! (by rw [zH HY.out h0];exact HIK.out)
   clear h0 hy hIC hfr1 hSg e2
   go_wp2
   go_roundw
   case rel=>exact ⟨k+1,hlt2,by go_num,HNX.out,HNI.out,HOC.out⟩
   simp [intOf];omega
  obtain rfl:ncx=k:=by omega
  have H2F:Hid (iN wr S2 (.slice aix ncx cix) (x.code.map (idX rn))):=h! (by have h9:=HOL.out;rw [HNCX.out,iA, <-HNCX.out] at h9;exact h9)
  have HIF2:Hid (IMap wr mb (encT (fC np ((pre ++ fU x.phis) ++ fI x.code)))):=h! (by have h9:=HIK.out;rw [aH (by rw [<-HNCX.out];exact aA _)] at h9;exact h9)
  have H1R:Hid (gI wr S1 (.slice apx npx cpx) (x.phis.map (idP rn))):=h! (H1F.out.off OPhi.nice HOC.out (fun q h1 h2=>h2.elim (fun e=>by have:=HNO7.out.2.2.2.2.2.2.2.1 q h1;omega) (fun h=>H12.out.1 q h1 h)))
  have H3R:Hid (eV wr S3 (.slice atx ntx ctx) x.term.to):=h! ((H3.out.now.off HOK.out (fun q h1 h2=>h2.elim (fun e=>by have:=HNO7.out.2.2.2.2.2.2.2.2.2 q h1;omega) (fun h=>H12.out.2.1 q h h1))).off HOC.out (fun q h1 h2=>h2.elim (fun e=>by have:=HNO7.out.2.2.2.2.2.2.2.2.2 q h1;omega) (fun h=>H12.out.2.2 q h h1)))
  have HOLDB:Hid (OldK w1 wr):=h! ((HOLD.out.now.off HOK.out (fun q h=>h.elim (fun e=>by rw [e];exact HZM.out.1) (fun h=>(HFS.out q (HIS.out.1 q h)).1)) HZM.out.2).off HOC.out (fun q h=>h.elim (fun e=>by rw [e];exact HZM.out.1) (fun h=>(HFS.out q (HIS.out.2.1 q h)).1)) (bI HZM.out.2 HOK.out.size))
  clear HOL HIK HIF H1F H2R
  --@D
  generalize wr=wb at *
  obtain ⟨lBLR2,cBLR2,fBLR2⟩:=BLR2.out
  go_wp2_with fail
  clear lBLR2 cBLR2 fBLR2
  have hz9b:w9.heap.size <= wb.heap.size:=bI HOK.out.size HOC.out.size
  have hz9:bl < w9.heap.size:=BL.out.lt
  go_loopw [107] (fun kv wr => ∃ k:Nat,k <= ntx/\kv = .int .i64 k/\eV wr S3 (.slice atx ntx ctx) (gJ (plO O) x.term.to k)/\Off S3 wb wr) (fun kv _=>ntx - (intOf kv).toNat)
  case atStart=>exact ⟨0,aJ _,rfl,by rw [gN];exact H3R.out,Off.refl _ _⟩
  obtain ⟨k,hk,rfl,hol,ho⟩:=hrel
  have HOL:=h! hol
  have HOT:=h! ho
  clear hol ho
  have HOLDR:Hid (OldK w1 wr):=h! (HOLDB.out.off HOT.out (fun q h=>(HFS.out q (HIS.out.2.2 q h)).1) (by omega))
  have BLR3:Hid (Box wr bl #[.slice apx npx cpx,.slice aix ncx cix,.int .i64 x.term.op,.int .i64 x.term.val,.slice atx ntx ctx,.int .i64 x.term.n]):=h! (BLR2.out.off HOT.out HNO7.out.2.2.2.2.2.2.1)
  have BGR:=h! (HOLDR.out.box HBG.out)
  by_cases hlt2:k < ntx
  ·obtain ⟨q0,hq0⟩ : ∃ y,x.term.to[k]? = some y:=⟨_,aC (by rw [<-HNTX.out];exact hlt2)⟩
   have hqr:=HTO.out q0 (aG hq0)
   obtain ⟨qn,rfl⟩ : ∃ qn:Nat,q0=qn:=⟨q0.toNat,by omega⟩
   have hqb:qn < nb:=by have:=HNB.out;omega
   have hqO:((qn:Int).toNat) ∈ O:=HAO.out _ (by have:=HNB.out;omega)
   obtain ⟨g1,cap1,hv,hSg,hgl1,hcell,hfr1, -⟩:=HOL.out.addr (i:=k) (x:=(qn:Int)) (by rw [gZ];exact hq0)
   rw [eY, <-HNTX.out] at hv
   injection hv with e1 e2 e3
   subst e1
   subst e3
   have hplc:=(HOLDR.out.cell (o:=lo+qn) hlw).trans (HPL.out (qn:Int) (by simpa using hqb) hqO)
   have HPLC:=h! hplc
   have HCEL:=h! hcell
   have HFR1:=h! hfr1
   have HSG:=h! hSg
   have HQ0:=h! hq0
   have HP64:=h! (HPL64.out (qn:Int) hqO)
   have hlwr:lb < wr.heap.size:=by have:=HOT.out.size;omega
   have HRR:Hid (fQ wr wr):=h! (Below.refl _ _)
   clear hfr1 hSg e2 hq0 hqr hplc
   obtain ⟨lBLR3,cBLR3,fBLR3⟩:=BLR3.out
   obtain ⟨lBGR,cBGR,fBGR⟩:=BGR.out
   go_upto_region 31 with (fail)
   clear hcell
   refine wp_region_grow 12 (fun _=>.plain) (by kernel_rfl) (by kernel_rfl) ?_ (fun ν => ?_)
   ·exact fun _=>trivial
   simp only [aQ,aU,aT,aY]
   iterate 12 (refine Grow.val (v := ?_) rfl rfl (fun wg hbg hdg => ?_) ?_;rotate_left;(focus ((obtain ⟨lg0,cg0,fg0⟩:=BLR3.out.later hbg);(obtain ⟨lg1,cg1,fg1⟩:=BGR.out.later hbg);(have zp:=(hbg.cell (p:=⟨lb,lo+qn,none⟩) hlwr).trans HPLC.out);clear hbg hdg;first | (go_simp;done) | (go_simp;with_reducible rfl)));simp only [Act.put,aB,aE,aF])
   intro wg hb hf hap
   clear hap
   clear lBLR3 cBLR3 fBLR3 lBGR cBGR fBGR
   replace BLR3:=h! (BLR3.out.later hb)
   replace BGR:=h! (BGR.out.later hb)
   replace HRR:=h! (HRR.out.later hb)
   obtain ⟨lBLR3,cBLR3,fBLR3⟩:=BLR3.out
   obtain ⟨lBGR,cBGR,fBGR⟩:=BGR.out
   clear hf
   have hcl2:=(HRR.out.cell (p:=⟨g1,k,none⟩) hgl1).trans HCEL.out
   have hfz2:∀ o,wg.frozen? ⟨g1,o,none⟩=false:=fun o=>(HRR.out.frozen (p:=⟨g1,o,none⟩) hgl1).trans (HFR1.out o)
   have HNX:Hid (eV (wg.setCell ⟨g1,k,none⟩ (.int .i64 (plO O (qn:Int)))) S3 (.slice (some ⟨g1,0,none⟩) ntx ctx) (gJ (plO O) x.term.to (k+1))):=h! (by
    have h9:=eV.set (HOL.out.off (Off.of_below HRR.out Foot.none) (fun _ _ h=>h)) (g:=g1) (cap:=ctx) (by rw [eY, <-HNTX.out]) (i:=k) (by rw [eY, <-HNTX.out];exact hlt2) HP64.out
    rw [gU HQ0.out] at h9
    exact h9)
   have HNO:Hid (Off S3 wb (wg.setCell ⟨g1,k,none⟩ (.int .i64 (plO O (qn:Int))))):=h! ((HOT.out.trans (Off.of_below HRR.out _)).trans ((Off.set wg ⟨g1,k,none⟩ _).mono fun z _ hz=>by have h9:z=g1:=hz;rw [h9];exact HSG.out))
   clear HRR HOL HCEL
   go_wp2
   go_roundw
   case rel=>exact ⟨k+1,hlt2,by go_num,HNX.out,HNO.out⟩
   simp [intOf];omega
  obtain rfl:ntx=k:=by omega
  have H3F:Hid (eV wr S3 (.slice atx ntx ctx) (x.term.to.map (plO O))):=h! (by have h9:=HOL.out;rw [HNTX.out,iA, <-HNTX.out] at h9;exact h9)
  clear HOL
  --@E
  generalize wr=wc at *
  have HOFT:Hid (Off (fun q=>q=mb \/ F b q) w9 wc):=h! (((HOK.out.mono fun q _ h=>h.imp id (HIS.out.1 q)).trans (HOC.out.mono fun q _ h=>h.imp id (HIS.out.2.1 q))).trans (HOT.out.mono fun q _ h=>.inr (HIS.out.2.2 q h)))
  have HEL:Hid (OBlock wc (F b) [.slice apx npx cpx,.slice aix ncx cix,.int .i64 x.term.op,.int .i64 x.term.val,.slice atx ntx ctx,.int .i64 x.term.n] (idB rn O x)):=h! (by
   rw [<-HCH.out,aE4]
   refine HCLO.out wc _ _ _ (H1R.out.off OPhi.nice HOT.out (fun q h1 h2=>H12.out.2.1 q h1 h2)) (H2F.out.off OInstr.nice HOT.out (fun q h1 h2=>H12.out.2.2 q h1 h2)) H3F.out ?_
   have:=HOFT.out.size
   have:=HBL8.out
   omega)
  have HELH:Hid (Holds [] w1.heap.size wc (F b) (fun W=>OBlock W (F b) [.slice apx npx cpx,.slice aix ncx cix,.int .i64 x.term.op,.int .i64 x.term.val,.slice atx ntx ctx,.int .i64 x.term.n] (idB rn O x))):=h! (lP OBlock.nice HEL.out (fun k hk=>(HFS.out k hk).1))
  have HFO:Hid (∀ q,(q=mb \/ F b q) -> ¬ SO q/\q ≠ b4+1/\q ≠ bl/\w1.heap.size <= q):=h! (fun q hq=>by
   rcases hq with rfl | hq
   ·exact ⟨fun h=>HSO.out.free _ h (by simp),by omega,by omega,by omega⟩
   have h1:=HFS.out q hq
   refine ⟨fun h => ?_,by omega,by omega,h1.1⟩
   rcases HSK.out q h with ⟨d,hd,h⟩ | h
   ·exact HFD.out q hq (.inr (.inr ⟨d,hd,h⟩))
   omega)
  have HTK:=h! (eP _ _ _ HOB.out)
  have HLEN:Hid (((O.take i).map fun b=>idB rn O (kQ f b)).length=i):=h! (by rw [bE,aR];have:=HNO.out;omega)
  have B5C:Hid (Box wc (b4+1) #[.slice pa2 np pc2,.int .i64 ar,.int .i64 ce,.slice ao i co]):=h! (B5.out.off HOFT.out (fun h=>(HFO.out _ h).2.1 rfl))
  have HSOC:Hid (Holds [] w1.heap.size wc SO (fun W=>eX W SO (.slice ao i co) ((O.take i).map fun b=>idB rn O (kQ f b)))):=h! ((HSO.out.off HOFT.out (fun q h1 h2=>(HFO.out q h2).1 h1)).less (by simp))
  have HFK:Hid ((F b).off SO):=h! (fun q h1 h2=>(HFO.out q (.inr h1)).1 h2)
  have HIC:Hid (IMap wc mb (encT (fC np (idsO f (O.take (i+1)))))):=h! (by
   rw [tY HOB.out,HBX.out,rE, <-HPRE.out, <-List.append_assoc]
   exact HIF2.out.off HOT.out (fun h=>by have:=HNO7.out.2.2.2.2.2.2.2.2.2 _ h;omega))
  have HOFC:Hid (Off (fun k=>k=mb \/ k=b4+1 \/ ∃ d,d ∈ O.take (i+1)/\F d k) w7 wc):=h! ((Off.mono HOF.out fun q _ h=>by
   rcases h with h | h | ⟨d,hd,h⟩
   ·exact .inl h
   ·exact .inr (.inl h)
   ·exact .inr (.inr ⟨d,by rw [HTK.out];simp [hd],h⟩)).trans (HOFT.out.mono fun q _ h=>by
   rcases h with h | h
   ·exact .inl h
   exact .inr (.inr ⟨b,by rw [HTK.out];simp,h⟩)))
  clear H1R H2F H3F HEL HOLDB HIF2 HSO
  obtain ⟨lB5C,cB5C,fB5C⟩:=B5C.out
  obtain ⟨lBLR3,cBLR3,fBLR3⟩:=BLR3.out
  have hlc1:w1.heap.size <= wc.heap.size:=by have:=HOFT.out.size;have:=Off.size HOF.out;omega
  have hp1:∀ b ∈ ([] : List Nat),b < w1.heap.size:=by intro b hb;cases hb
  have hp5:∀ o:Obj,w1.heap.size <= (wc.alloc o).heap.size:=fun o=>by rw [World.size_alloc];omega
  have hp2:i+1 <= 17592186044416:=by omega
  have hp3:(i+1) * 96 <= 140737488355328:=by omega
  have hp4:∀ u ∈ ([.slice apx npx cpx,.slice aix ncx cix,.int .i64 x.term.op,.int .i64 x.term.val,.slice atx ntx ctx,.int .i64 x.term.n] : List Value),u.oneCell' = true:=by simp [Value.oneCell']
  have HSB5:Hid (¬ SO (b4+1)):=h! (fun h=>by
   rcases HSK.out _ h with ⟨d,hd,h⟩ | h
   ·have:=HSB.out.1 _ (HFB.out d (cQ hd) _ h);omega
   omega)
  go_upto_region 34 with (at_builtin;go_loud (refine lH OBlock.nice rfl _ _ 23 63 rfl aA6 rfl rfl HLEN.out (HSOC.out.alloc _) (Box.new _ _ _) rfl (HELH.out.alloc _).now HFK.out HELH.out.base hp1 (hp5 _) hp4 hp2 hp3 ?_);intro v2 w13 SN q1 q2 q3 q4;obtain ⟨g2,c2,rfl⟩:=q4;have HB5N:=h! ((B5C.out.alloc _).off q3 HSB5.out);have HQ1:=h! q1;have HQ2:=h! q2;have HQ3:=h! q3;clear q1 q2 q3;obtain ⟨l5,c5,f5⟩:=HB5N.out)
  clear l5 c5 f5 hp1 hp5 hp2 hp3 hp4
  clear lB5C cB5C fB5C lBLR3 cBLR3 fBLR3
  have HSET:Hid (Off (Foot.one (b4+1)) w13 (w13.setCell ⟨b4+1,3,none⟩ (.slice (some ⟨g2,0,none⟩) (i+1) c2))):=h! (Off.set w13 ⟨b4+1,3,none⟩ _)
  have B5N:Hid (Box (w13.setCell ⟨b4+1,3,none⟩ (.slice (some ⟨g2,0,none⟩) (i+1) c2)) (b4+1) #[.slice pa2 np pc2,.int .i64 ar,.int .i64 ce,.slice (some ⟨g2,0,none⟩) (i+1) c2]):=h! (by simpa using HB5N.out.set 3 (.slice (some ⟨g2,0,none⟩) (i+1) c2))
  generalize w13.setCell ⟨b4+1,3,none⟩ (.slice (some ⟨g2,0,none⟩) (i+1) c2)=w14 at *
  have HSNK:Hid (∀ q,SN q -> (∃ d,d ∈ O.take (i+1)/\F d q) \/ w7.heap.size <= q):=h! (fun q hq=>by
   rcases HQ2.out q hq with h | h | h
   ·exact (HSK.out q h).imp (fun ⟨d,hd,h⟩=>⟨d,by rw [HTK.out];simp [hd],h⟩) id
   ·exact .inl ⟨b,by rw [HTK.out];simp,h⟩
   right
   rw [World.size_alloc] at h
   have:=HOFT.out.size
   have:=Off.size HOF.out
   omega)
  have HSNF:Hid (∀ q,SN q -> q ∉ [w.heap.size,w.heap.size+1,b4,b4+1,mb,b6]):=h! (fun q hq hm=>by
   have h8:w7.heap.size <= q \/ (w1.heap.size <= q/\q < b4):=by
    rcases HSNK.out q hq with ⟨d,hd,h⟩ | h
    ·exact .inr (HSB.out.1 _ (HFB.out d (cQ hd) _ h))
    exact .inl h
   simp at hm
   omega)
  have HSON:Hid (Holds [w.heap.size,w.heap.size+1,b4,b4+1,mb,b6] w1.heap.size w14 SN (fun W=>eX W SN (.slice (some ⟨g2,0,none⟩) (i+1) c2) ((O.take (i+1)).map fun b=>idB rn O (kQ f b)))):=h! (by
   have h9:=HQ1.out.off HSET.out (fun q h1 h2=>HSNF.out q h1 (by cases h2;simp))
   rw [HTK.out,bC,cT,eC,HBX.out]
   exact ⟨h9.now,h9.keep,h9.lt,h9.base,HSNF.out⟩)
  have HIN:Hid (IMap w14 mb (encT (fC np (idsO f (O.take (i+1)))))):=h! (((HIC.out.alloc _).off HQ3.out (fun h=>by
   rcases HSK.out _ h with ⟨d,hd,h⟩ | h
   ·have:=HSB.out.1 _ (HFB.out d (cQ hd) _ h);omega
   omega)).off HSET.out (fun h=>by have e:mb=b4+1:=h;omega))
  have HOFN:Hid (OffF (fun k=>k=mb \/ k=b4+1 \/ ∃ d,d ∈ O.take (i+1)/\F d k) w7 w14):=h! (Off.grow (Off.grow (Off.trans HOFC.out (Off.alloc _ _ _)) HQ3.out (fun q hq=>by
   rcases HSK.out q hq with ⟨d,hd,h⟩ | h
   ·exact .inl (.inr (.inr ⟨d,by rw [HTK.out];simp [hd],h⟩))
   exact .inr h)) HSET.out (fun q hq=>.inl (.inr (.inl hq))))
  clear HQ1 HQ2 HQ3 HSET HB5N HIC HOFC HSOC HELH B5C BLR3
  go_wp2
  go_roundw
  case rel=>exact ⟨i+1,SN,some ⟨g2,0,none⟩,c2,hlt,by go_num,HOFN.out,HIN.out,B5N.out,HSON.out,HSNK.out⟩
  simp [intOf];omega
 obtain rfl:no=i:=by omega
 --@F
 have hOtk:O.take no=O:=aH (by rw [<-HNO.out];exact aA _)
 have HIF:Hid (IMap w8 mb (encT (fC np (idsO f O)))):=h! (by have h9:=HI.out;rw [hOtk] at h9;exact h9)
 obtain ⟨xs0,hxs0⟩ : ∃ xs0,xs0=O.map fun b=>idB rn O (kQ f b):=⟨_,rfl⟩
 have HSOF:Hid (Holds [w.heap.size,w.heap.size+1,b4,b4+1,mb,b6] w1.heap.size w8 SO (fun W=>eX W SO (.slice ao no co) xs0)):=h! (by have h9:=HSO.out;rw [hOtk, <-hxs0] at h9;exact h9)
 have HLEN0:Hid (no=xs0.length):=h! (by rw [hxs0,bE,HNO.out])
 have HXS0:=h! hxs0
 have HQ:Hid (Holds [b4+1,b4,w.heap.size,w.heap.size+1] w1.heap.size w8 SQ (fun W=>eV W SQ (.slice pa2 np pc2) f.params)):=h! ((HQ7.out.off HOF.out (fun k h1 h2=>(HDB.out k h2).2.2 h1)).less (by simp))
 have HQO:Hid (SQ.off SO):=h! (fun k h1 h2=>by
  rcases HSK.out k h2 with ⟨d,hd,h⟩ | h
  ·exact HSB.out.2.1 k h1 (HFB.out d (cQ hd) k h)
  have:=HSB.out.2.2 k h1;omega)
 clear HI HSO hOtk hxs0 hlt hi
 have HCALL:Hid (Calls Tryz.prog 49 #[.pointer (some ⟨b4+1,0,none⟩),.func (.func 74) #[] #[.pointer (some ⟨b6,0,none⟩)]] w8 (MapR w8 SO (.slice ao no co) xs0 rn)):=h! (by
  have h1:=HSOF.out.now
  have h2:=B5.out.at 3 (v:=.slice ao no co) rfl
  have h3:=B5.out.1
  rw [HLEN0.out] at h1 h2 ⊢
  refine mapC h2 h3 (fun hk=>HSOF.out.free _ hk (by simp)) h1 wL (fun v _=>HR64.out v) (fun W v hv ho => ?_)
  rw [HRN.out]
  exact aFI (B6.out.off ho (fun hk=>HSOF.out.free _ hk (by simp))) (HIF.out.off ho (fun hk=>HSOF.out.free _ hk (by simp))))
 go_wp2_with fail
 --@F1
 refine HCALL.out.mono ?_
 rintro e w9 ⟨rfl,ho,hOB⟩
 obtain ⟨xs1,hxs1⟩ : ∃ xs1,xs1=xs0.map (mapB rn):=⟨_,rfl⟩
 rw [<-hxs1] at hOB
 have HXS1:Hid (xs1=O.map fun b=>mapB rn (idB rn O (kQ f b))):=h! (by rw [hxs1,HXS0.out,cI];rfl)
 have HNX1:Hid (no=xs1.length):=h! (by rw [hxs1,bE];exact HLEN0.out)
 have HSOB:=h! HSOF.out.base
 have HSOX:=h! HSOF.out.free
 have HOB:=h! hOB
 replace HW:=h! (HW.out.trans (ho.below (base:=w.heap.size) HW.out.size (fun k _ hk=>by have:=HSOB.out k hk;omega)))
 replace B2:=h! (B2.out.off ho (fun hk=>HSOX.out _ hk (by simp)))
 replace B5:=h! (B5.out.off ho (fun hk=>HSOX.out _ hk (by simp)))
 replace HQ:=h! (HQ.out.off ho HQO.out)
 have hz18:w1.heap.size <= w8.heap.size:=by omega
 have HOLD9:Hid (OldK w1 w9):=h! (HOLD.out.now.off ho (fun k hk=>HSOB.out k hk) hz18)
 have hz19:w1.heap.size <= w9.heap.size:=by have:=ho.size;omega
 clear ho hOB hxs1 HCALL HSOF HOLD HIF
 obtain ⟨lB2,cB2,fB2⟩:=B2.out
 obtain ⟨lB5,cB5,fB5⟩:=B5.out
 go_wp2_with fail
 clear lB2 cB2 fB2 lB5 cB5 fB5
 --@F2
 go_loopw [137] (fun iv wr => ∃ i:Nat,i <= no/\iv = .int .i64 i/\eX wr SO (.slice ao no co) (gJ (sY O) xs1 i)/\Off SO w9 wr) (fun iv _=>no - (intOf iv).toNat)
 case atStart=>exact ⟨0,aJ _,rfl,by rw [gN];exact HOB.out,Off.refl _ _⟩
 obtain ⟨i,hi,rfl,hol,ho⟩:=hrel
 have HOL:=h! hol
 have HOE:=h! ho
 clear hol ho
 --@FA
 by_cases hlt2:i < no
 ·obtain ⟨x1,hx1⟩ : ∃ x1,xs1[i]? = some x1:=⟨_,aC (by rw [<-HNX1.out];exact hlt2)⟩
  --@FD
  obtain ⟨g1,cap1,ap1,ai1,at1,cp1,ci1,ct1,S1,S2,hv,hgl,hSg,hBC,hfr,hO1,hO2,d1,d2,h12,n1,n2,hclose⟩:=eX.opened HOL.out (j:=i) (x:=x1) (by rw [gZ];exact hx1)
  rw [eY, <-HNX1.out] at hv
  injection hv with e1 e2 e3
  subst e1
  subst e3
  have k0:=hBC.c0
  have k1:=hBC.c1
  have k2:=hBC.c2
  have k3:=hBC.c3
  have k4:=hBC.c4
  have k5:=hBC.c5
  --@FB
  obtain ⟨nph,hnph⟩ : ∃ n,n=x1.phis.length:=⟨_,rfl⟩
  obtain ⟨nco,hnco⟩ : ∃ n,n=x1.code.length:=⟨_,rfl⟩
  obtain ⟨nto,hnto⟩ : ∃ n,n=x1.term.to.length:=⟨_,rfl⟩
  have hpb:nph <= 17592186044416:=by obtain ⟨cs,G,F,hp⟩:=hO1;rw [hnph];exact hp.row.big
  rw [<-hnph] at k0 hO1 hclose
  rw [<-hnco] at k1 hO2 hclose
  rw [<-hnto] at k4
  have HNPH:=h! hnph
  have HX1:=h! hx1
  have HO1:=h! hO1
  have HO2:=h! hO2
  have H12:=h! h12
  have HCL:=h! hclose
  have HD1:=h! d1
  --@FC
  have HPH:Hid (∀ p ∈ x1.phis,p.src.Nodup/\p.src.length=p.vals.length /\ ∀ q ∈ p.src,0 <= q/\q.toNat ∈ O/\q.toNat < nb):=h! (fun p hp=>by
   rw [HNB.out]
   exact aDM (g:=rn) HF.out (fun d hd=>HO.out.facts.2.2.1 d hd) HAO.out (by rw [<-HXS1.out];exact aG hx1) hp)
  clear hx1 hO1 hO2 h12 hclose d1 d2 n1 n2 hBC hSg e2 hnph hnco hnto hfr
  --@F3
  go_upto_region 39 with (fail)
  clear k0 k1 k2 k3 k4 k5
  have HB5:Hid (Below wr.heap.size wr (wr.alloc (.cells #[.slice ap1 nph cp1,.slice ai1 nco ci1,.int .i64 x1.term.op,.int .i64 x1.term.val,.slice at1 nto ct1,.int .i64 x1.term.n] 63))):=h! ((Below.refl _ _).alloc (aA _) _)
  have BM:=h! (Box.new wr #[.slice ap1 nph cp1,.slice ai1 nco ci1,.int .i64 x1.term.op,.int .i64 x1.term.val,.slice at1 nto ct1,.int .i64 x1.term.n] 63)
  obtain ⟨bm,hbm⟩ : ∃ bm,bm=wr.heap.size:=⟨_,rfl⟩
  have HSL:Hid (∀ q,S1 q -> q < bm):=h! (fun q hq=>by rw [hbm];exact HO1.out.lt q hq)
  rw [<-hbm] at BM ⊢
  generalize wr.alloc (.cells #[.slice ap1 nph cp1,.slice ai1 nco ci1,.int .i64 x1.term.op,.int .i64 x1.term.val,.slice at1 nto ct1,.int .i64 x1.term.n] 63)=w10 at *
  have HOE10:Hid (Off SO w9 w10):=h! (HOE.out.trans (Off.of_below HB5.out _))
  have HO10:Hid (gI w10 S1 (.slice ap1 nph cp1) x1.phis):=h! (HO1.out.off OPhi.nice (Off.of_below HB5.out Foot.none) (fun _ _ h=>h))
  have HCL10:Hid (∀ (W' : World) (ps:List PhiD),Off S1 w10 W' -> gI W' S1 (.slice ap1 nph cp1) ps -> eX W' SO (.slice (some ⟨g1,0,none⟩) no co) ((gJ (sY O) xs1 i).set i { x1 with phis:=ps })):=h! (fun W' ps h3 h4=>HCL.out W' ps x1.code ((Off.of_below HB5.out _).trans (h3.mono fun q _ h=>.inl h)) h4 (HO2.out.off OInstr.nice ((Off.of_below HB5.out _).trans h3) H12.out.symm))
  have HOLD10:Hid (OldK w1 w10):=h! (HOLD9.out.off HOE10.out (fun k hk=>HSOB.out k hk) hz19)
  have hz10:w9.heap.size <= w10.heap.size:=HOE10.out.size
  have hlm:bm < w10.heap.size:=BM.out.lt
  clear hbm HB5 HO1 HO2 HCL HOL HOE
  obtain ⟨lM,cM,fM⟩:=BM.out
  go_wp2_with fail
  clear lM cM fM
  --@F4
  go_loopw [144] (fun kv wr => ∃ k:Nat,k <= nph/\kv = .int .i64 k/\gI wr S1 (.slice ap1 nph cp1) (gJ (wJ O) x1.phis k)/\Off S1 w10 wr) (fun kv _=>nph - (intOf kv).toNat)
  case atStart=>exact ⟨0,aJ _,rfl,by rw [gN];exact HO10.out,Off.refl _ _⟩
  obtain ⟨k,hk,rfl,hol,ho⟩:=hrel
  have HOL:=h! hol
  have HOK:=h! ho
  clear hol ho
  by_cases hlt3:k < nph
  ·obtain ⟨p,hp⟩ : ∃ p,x1.phis[k]? = some p:=⟨_,aC (by rw [<-HNPH.out];exact hlt3)⟩
   --@FE
   obtain ⟨g2,cap2,af,av,cf,cv,Sf,Sv,hv,hgl2,hSg2,hPC,hfr2,hsf,hsv,hfv,i1,i2,n1,n2,hclose2⟩:=gI.both HOL.out (j:=k) (p:=p) (by rw [gZ];exact hp)
   rw [eY, <-HNPH.out] at hv
   injection hv with e1 e2 e3
   subst e1
   subst e3
   obtain ⟨hp1,hp2,hp3⟩:=HPH.out p (aG hp)
   obtain ⟨nf,hnf⟩ : ∃ n,n=p.src.length:=⟨_,rfl⟩
   have hnv:nf=p.vals.length:=by rw [hnf,hp2]
   have m2:=hPC.c2
   have m3:=hPC.c3
   have hfb:nf <= 17592186044416:=by rw [hnf];exact hsf.1.big
   rw [<-hnf] at m2 hsf hclose2
   rw [<-hnv] at m3 hsv hclose2
   have HNF:=h! hnf
   have HNV:=h! hnv
   have HP:=h! hp
   have HP1:=h! hp1
   have HP3:=h! hp3
   have HM2:=h! m2
   have HM3:=h! m3
   have HSF:=h! hsf
   have HSV:=h! hsv
   have HFV:=h! hfv
   have HI12:=h! (And.intro i1 i2)
   have HN12:=h! (And.intro n1 n2)
   have HCL2:=h! hclose2
   have HOLDR:Hid (OldK w1 wr):=h! (HOLD10.out.off HOK.out (fun q hq=>HSOB.out q (HD1.out q hq)) (by omega))
   have BMR:Hid (Box wr bm #[.slice (some ⟨g2,0,none⟩) nph cp1,.slice ai1 nco ci1,.int .i64 x1.term.op,.int .i64 x1.term.val,.slice at1 nto ct1,.int .i64 x1.term.n]):=h! (BM.out.off HOK.out (fun h=>by have:=HSL.out _ h;omega))
   have hz10r:w10.heap.size <= wr.heap.size:=HOK.out.size
   clear hp hp1 hp2 hp3 hnf hnv m2 m3 hsf hsv hfv i1 i2 n1 n2 hclose2 hPC hfr2 e2 hSg2
   have hmm:=@run_makeMap Tryz.prog
   obtain ⟨lM,cM,fM⟩:=BMR.out
   --@F5
   go_upto_region 44 with (fail)
   clear hmm lM cM fM
   have HI:=h! (IMap.new wr)
   have HBM:Hid (Below wr.heap.size wr (wr.alloc (.map #[] 0))):=h! ((Below.refl _ _).alloc (aA _) _)
   obtain ⟨pm,hpm⟩ : ∃ pm,pm=wr.heap.size:=⟨_,rfl⟩
   rw [<-hpm] at HI
   simp only [<-hpm]
   have hgpm:g2 < pm:=by omega
   have hSFL:∀ q,Sf q -> q < pm:=fun q hq=>by rw [hpm];exact HSF.out.lt q hq
   have hSVL:∀ q,Sv q -> q < pm:=fun q hq=>by rw [hpm];exact HSV.out.lt q hq
   have HSFL:=h! hSFL
   have HSVL:=h! hSVL
   have hpw:w10.heap.size <= pm:=by omega
   have HPMW:=h! hpm
   clear hpm hSFL hSVL
   generalize wr.alloc (.map #[] 0)=w11 at *
   have hlp:pm < w11.heap.size:=HI.out.lt
   have HSF11:Hid (eV w11 Sf (.slice af nf cf) p.src):=h! (HSF.out.off (Off.of_below HBM.out Foot.none) (fun _ _ h=>h))
   have HSV11:Hid (eV w11 Sv (.slice av nf cv) p.vals):=h! (HSV.out.off (Off.of_below HBM.out Foot.none) (fun _ _ h=>h))
   have m2:=(HBM.out.cell (p:=⟨g2,k * 4+2,none⟩) hgl2).trans HM2.out
   have m3:=(HBM.out.cell (p:=⟨g2,k * 4+3,none⟩) hgl2).trans HM3.out
   have HOLD11:Hid (OldK w1 w11):=h! (HOLDR.out.off (Off.of_below HBM.out Foot.none) (fun _ h=>h.elim) (by omega))
   have HM2B:=h! m2
   have HM3B:=h! m3
   clear HM2 HM3 HSF HSV HOLDR BMR HOL
   go_wp2_with fail
   clear m2 m3
   --@F6
   go_loopw [157] (fun jv wr => ∃ j:Nat,j <= nf/\jv = .int .i64 j/\eV wr Sf (.slice af nf cf) (gJ (plO O) p.src j)/\IMap wr pm (encT ((lX O p).take j))/\Off (fun q=>q=pm \/ Sf q) w11 wr) (fun jv _=>nf - (intOf jv).toNat)
   case atStart=>exact ⟨0,aJ _,rfl,by rw [gN];exact HSF11.out,HI.out,Off.refl _ _⟩
   obtain ⟨j,hj,rfl,hol,hI,ho⟩:=hrel
   have HOL:=h! hol
   have HIJ:=h! hI
   have HOJ:=h! ho
   clear hol hI ho
   have hlr:w11.heap.size <= wr.heap.size:=HOJ.out.size
   have HOLDR:Hid (OldK w1 wr):=h! (HOLD11.out.off HOJ.out (fun q h=>h.elim (fun e=>by omega) (fun h=>HSOB.out q (HD1.out q (HI12.out.1 q h)))) (by omega))
   have HSVR:Hid (eV wr Sv (.slice av nf cv) p.vals):=h! (HSV11.out.off HOJ.out (fun q h1 h2=>h2.elim (fun e=>by have:=HSVL.out q h1;omega) (fun h=>HFV.out q h h1)))
   have HNG:Hid (¬ (g2=pm \/ Sf g2)):=h! (fun h=>h.elim (fun e=>by omega) HN12.out.1)
   have hg2r:g2 < wr.heap.size:=by omega
   have m2:=(HOJ.out.cellA (p:=⟨g2,k * 4+2,none⟩) (by show g2 < _;omega) HNG.out).trans HM2B.out
   have m3:=(HOJ.out.cellA (p:=⟨g2,k * 4+3,none⟩) (by show g2 < _;omega) HNG.out).trans HM3B.out
   have HM2R:=h! m2
   have HM3R:=h! m3
   by_cases hlt4:j < nf
   ·obtain ⟨q0,hq0⟩ : ∃ y,p.src[j]? = some y:=⟨_,aC (by rw [<-HNF.out];exact hlt4)⟩
    obtain ⟨v0,hv0⟩ : ∃ y,p.vals[j]? = some y:=⟨_,aC (by rw [<-HNV.out];exact hlt4)⟩
    have hqr:=HP3.out q0 (aG hq0)
    obtain ⟨qn,rfl⟩ : ∃ qn:Nat,q0=qn:=⟨q0.toNat,by omega⟩
    have hqb:qn < nb:=by have:=hqr.2.2;omega
    have hqO:=hqr.2.1
    obtain ⟨gf,capf,hv,hSgf,hglf,hcell,hfrf, -⟩:=HOL.out.addr (i:=j) (x:=(qn:Int)) (by rw [gZ];exact hq0)
    rw [eY, <-HNF.out] at hv
    injection hv with e1 e2 e3
    subst e1
    subst e3
    obtain ⟨gv,capv,hv,hSgv,hglv,hcelv, -, -⟩:=HSVR.out.addr (i:=j) (x:=v0) hv0
    rw [<-HNV.out] at hv
    injection hv with e4 e5 e6
    subst e4
    subst e6
    have hplc:=(HOLDR.out.cell (o:=lo+qn) hlw).trans (HPL.out (qn:Int) (by simpa using hqb) hqO)
    have HPLC:=h! hplc
    have HCEL:=h! hcell
    have HCEV:=h! hcelv
    have HFRF:=h! hfrf
    have HSGF:=h! hSgf
    have HSGV:=h! hSgv
    have HQ0:=h! hq0
    have HV0:=h! hv0
    have HP64:=h! (HPL64.out (qn:Int) hqO)
    have hlwr:lb < wr.heap.size:=by omega
    have HRR:Hid (fQ wr wr):=h! (Below.refl _ _)
    have BGR:=h! (HOLDR.out.box HBG.out)
    have hgfv:gv ≠ gf:=fun e=>HFV.out gf hSgf (e ▸ hSgv)
    have hgfp:gf < pm:=HSFL.out gf hSgf
    have hgvp:gv < pm:=HSVL.out gv hSgv
    have hgf2:g2 ≠ gf:=fun e=>HN12.out.1 (by rw [e];exact hSgf)
    have hlbf:lb ≠ gf:=fun e=>by have:=HSOB.out gf (HD1.out gf (HI12.out.1 gf hSgf));omega
    have hbgf:bg ≠ gf:=fun e=>by have:=HSOB.out gf (HD1.out gf (HI12.out.1 gf hSgf));omega
    clear hfrf hSgf hSgv e2 e5 hq0 hv0 hqr hplc m2 m3 hcelv
    obtain ⟨lBGR,cBGR,fBGR⟩:=BGR.out
    go_upto_region 47 with (fail)
    clear hcell
    refine wp_region_grow 13 (fun _=>.plain) (by kernel_rfl) (by kernel_rfl) ?_ (fun ν => ?_)
    ·exact fun _=>trivial
    simp only [aQ,aU,aT,aY]
    iterate 13 (refine Grow.val (v := ?_) rfl rfl (fun wg hbg hdg => ?_) ?_;rotate_left;(focus ((obtain ⟨lg0,cg0,fg0⟩:=BGR.out.later hbg);(have zp:=(hbg.cell (p:=⟨lb,lo+qn,none⟩) hlwr).trans HPLC.out;have z2:=(hbg.cell (p:=⟨g2,k * 4+2,none⟩) hg2r).trans HM2R.out);clear hbg hdg;first | (go_simp;done) | (go_simp;with_reducible rfl)));simp only [Act.put,aB,aE,aF])
    intro wg hb hf hap
    clear hap
    clear lBGR cBGR fBGR
    replace BGR:=h! (BGR.out.later hb)
    replace HRR:=h! (HRR.out.later hb)
    obtain ⟨lBGR,cBGR,fBGR⟩:=BGR.out
    clear hf
    have hcl2:=(HRR.out.cell (p:=⟨gf,j,none⟩) hglf).trans HCEL.out
    have hfz2:∀ o,wg.frozen? ⟨gf,o,none⟩=false:=fun o=>(HRR.out.frozen (p:=⟨gf,o,none⟩) hglf).trans (HFRF.out o)
    go_upto_region 48 with (fail)
    clear hcl2 hfz2
    clear lBGR cBGR fBGR
    have HNX:Hid (eV (wg.setCell ⟨gf,j,none⟩ (.int .i64 (plO O (qn:Int)))) Sf (.slice (some ⟨gf,0,none⟩) nf cf) (gJ (plO O) p.src (j+1))):=h! (by
     have h9:=eV.set (HOL.out.off (Off.of_below HRR.out Foot.none) (fun _ _ h=>h)) (g:=gf) (cap:=cf) (by rw [eY, <-HNF.out]) (i:=j) (by rw [eY, <-HNF.out];exact hlt4) HP64.out
     rw [gU HQ0.out] at h9
     exact h9)
    have HOS:Hid (Off (Foot.one gf) wr (wg.setCell ⟨gf,j,none⟩ (.int .i64 (plO O (qn:Int))))):=h! ((Off.of_below HRR.out _).trans (Off.set wg ⟨gf,j,none⟩ _))
    generalize wg.setCell ⟨gf,j,none⟩ (.int .i64 (plO O (qn:Int)))=w12 at *
    clear HRR HOL HCEL
    have BGS:Hid (Box w12 bg #[.slice ap np cp,.int .i64 ar,.int .i64 ce,.slice ab nb cb,pv,.slice (some ⟨ob,oo,none⟩) no oc,.slice (some ⟨lb,lo,none⟩) nb lc]):=h! ((HOLDR.out.box HBG.out).off HOS.out hbgf)
    have HPLS:Hid (w12.cell? ⟨lb,lo+qn,none⟩=some (.int .i64 (plO O (qn:Int)))):=h! ((HOS.out.cellA (p:=⟨lb,lo+qn,none⟩) hlwr hlbf).trans HPLC.out)
    have HM3S:=h! ((HOS.out.cellA (p:=⟨g2,k * 4+3,none⟩) hg2r hgf2).trans HM3R.out)
    have HVS:=h! ((HOS.out.cellA (p:=⟨gv,j,none⟩) hglv hgfv).trans HCEV.out)
    have HIS:Hid (IMap w12 pm (encT ((lX O p).take j))):=h! (HIJ.out.off HOS.out (fun h=>by have e:pm=gf:=h;omega))
    have HO12:Hid (Off (fun q=>q=pm \/ Sf q) w11 w12):=h! (HOJ.out.trans (HOS.out.mono fun q _ hq=>.inr (by have e:q=gf:=hq;rw [e];exact HSGF.out)))
    have hs12:wr.heap.size <= w12.heap.size:=HOS.out.size
    have hlw12:lb < w12.heap.size:=by omega
    have hg212:g2 < w12.heap.size:=by omega
    have hgv12:gv < w12.heap.size:=by omega
    clear BGR HPLC HM2R HM3R HCEV HIJ HOJ HOS HOLDR HSVR
    have HNX2:Hid (Holds [] 0 w12 Sf (fun W=>eV W Sf (.slice (some ⟨gf,0,none⟩) nf cf) (gJ (plO O) p.src (j+1)))):=h! (iF HNX.out (fun _ _=>aJ _))
    have HO12F:Hid (OffF (fun q=>q=pm \/ Sf q) w11 w12):=HO12
    clear HNX HO12
    obtain ⟨lBGS,cBGS,fBGS⟩:=BGS.out
    refine wp_region_grow 15 (fun _=>.plain) (by kernel_rfl) (by kernel_rfl) ?_ (fun ν => ?_)
    ·exact fun _=>trivial
    simp only [aQ,aU,aT,aY]
    iterate 15 (refine Grow.val (v := ?_) rfl rfl (fun wg hbg hdg => ?_) ?_;rotate_left;(focus ((obtain ⟨lg0,cg0,fg0⟩:=BGS.out.later hbg);(have zp:=(hbg.cell (p:=⟨lb,lo+qn,none⟩) hlw12).trans HPLS.out;have z3:=(hbg.cell (p:=⟨g2,k * 4+3,none⟩) hg212).trans HM3S.out;have zv:=(hbg.cell (p:=⟨gv,j,none⟩) hgv12).trans HVS.out);clear hbg hdg;first | (go_simp;done) | (go_simp;with_reducible rfl)));simp only [Act.put,aB,aE,aF])
    intro wg hb hf hap
    clear hap
    clear lBGS cBGS fBGS
    replace BGS:=h! (BGS.out.later hb)
    replace HNX2:=h! (HNX2.out.later hb)
    replace HIS:=h! (HIS.out.later hb)
    replace HO12F:=h! (HO12F.out.later hb)
    obtain ⟨lBGS,cBGS,fBGS⟩:=BGS.out
    clear hf
    clear lBGS cBGS fBGS
    go_wp2_with (at_mapUpdate;refine fT (q:=.i64) (b:=pm) (mm:=encT ((lX O p).take j)) (y:=plO O (qn:Int)) rfl _ _ _ _ (.inl rfl) Tryz.underlying93 Tryz.underlying3 rfl HIS.out rfl ?_;intro w13 hm2 hz2 ht2;have HI13:=h! hm2;have HT13:=h! ht2.off;clear hm2 hz2 ht2)
    go_roundw
    case rel=>exact ⟨j+1,hlt4,by go_num,(HNX2.out.off HT13.out (fun q h1 h2=>by cases h2;have:=HSFL.out _ h1;omega)).now,by rw [<-wE HP1.out (fun q hq=>⟨(HP3.out q hq).1,(HP3.out q hq).2.1⟩) HQ0.out HV0.out];exact HI13.out,Off.trans HO12F.out (HT13.out.mono fun q _ hq=>.inl hq)⟩
    simp [intOf];omega
   obtain rfl:nf=j:=by omega
   have HSS:Hid (eV wr Sf (.slice af nf cf) (p.src.map (plO O))):=h! (by have h9:=HOL.out;rw [HNF.out,iA, <-HNF.out] at h9;exact h9)
   have HIP:Hid (IMap wr pm (encT (lX O p))):=h! (by
    have h9:=HIJ.out
    rw [aH (by unfold lX;rw [eE,bE, <-HNF.out];omega)] at h9
    exact h9)
   have HV64:Hid (∀ q,In64 ((tyOf (lX O p) q).getD 0)):=h! (fun q=>rD (fun z hz=>HSVR.out.2 _ (List.of_mem_zip hz).2) q)
   clear HOL HIJ HOLDR
   generalize wr=w13 at *
   go_wp2_with fail
   refine (zD HSS.out).mono ?_
   rintro e w14 ⟨rfl,hs14,ho14⟩
   clear m2 m3
   have HO14:=h! ho14
   have m2:=(ho14.cellA (p:=⟨g2,k * 4+2,none⟩) hg2r HN12.out.1).trans HM2R.out
   have HM3S:=h! ((ho14.cellA (p:=⟨g2,k * 4+3,none⟩) hg2r HN12.out.1).trans HM3R.out)
   have HSV14:Hid (eV w14 Sv (.slice av nf cv) p.vals):=h! (HSVR.out.off ho14 (fun q h1 h2=>HFV.out q h2 h1))
   have HI14:Hid (IMap w14 pm (encT (lX O p))):=h! (HIP.out.off ho14 (fun h=>by have:=HSFL.out _ h;omega))
   obtain ⟨ss,hss⟩ : ∃ ss,ss=jH (p.src.map (plO O)):=⟨_,rfl⟩
   obtain ⟨ys,hys⟩ : ∃ ys,ys=ss.map fun q=>(tyOf (lX O p) q).getD 0:=⟨_,rfl⟩
   rw [<-hss] at hs14
   have HLS:Hid (nf=ss.length):=h! (by rw [hss,(gV _).length_eq,bE];exact HNF.out)
   have HLY:Hid (ys.length=p.vals.length):=h! (by rw [hys,bE, <-HLS.out];exact HNV.out)
   have HYS:=h! hys
   have HSQ:Hid (({ p with src:=ss,vals:=ys }:PhiD)=wJ O p):=h! (by rw [hys,hss];rfl)
   have HS14:=h! hs14
   have hz14:w13.heap.size <= w14.heap.size:=ho14.size
   clear hs14 ho14 hss hys HSS HIP HSVR HM2R HM3R
   go_wp2_with fail
   clear m2
   go_loopw [201] (fun jv wr => ∃ j:Nat,j <= nf/\jv = .int .i64 j/\eV wr Sv (.slice av nf cv) (kO ys p.vals j)/\Off Sv w14 wr) (fun jv _=>nf - (intOf jv).toNat)
   case atStart=>exact ⟨0,aJ _,rfl,by rw [sV];exact HSV14.out,Off.refl _ _⟩
   obtain ⟨j,hj,rfl,hol,ho⟩:=hrel
   have HOL:=h! hol
   have HOU:=h! ho
   clear hol ho
   have hlr2:w14.heap.size <= wr.heap.size:=HOU.out.size
   have HSR:Hid (eV wr Sf (.slice af nf cf) ss):=h! (HS14.out.off HOU.out (fun q h1 h2=>HFV.out q h1 h2))
   by_cases hlt4:j < nf
   ·obtain ⟨s0,hs0⟩ : ∃ y,ss[j]? = some y:=⟨_,aC (by rw [<-HLS.out];exact hlt4)⟩
    obtain ⟨u0,hu0⟩ : ∃ y,(kO ys p.vals j)[j]? = some y:=⟨_,aC (by rw [lK HLY.out, <-HNV.out];exact hlt4)⟩
    obtain ⟨gf,capf,hv,hSgf,hglf,hcell, -, -⟩:=HSR.out.addr (i:=j) (x:=s0) hs0
    rw [<-HLS.out] at hv
    injection hv with e1 e2 e3
    subst e1
    subst e3
    obtain ⟨gv,capv,hv,hSgv,hglv,hcelv,hfrv, -⟩:=HOL.out.addr (i:=j) (x:=u0) hu0
    rw [lK HLY.out, <-HNV.out] at hv
    injection hv with e4 e5 e6
    subst e4
    subst e6
    obtain ⟨t,ht⟩ : ∃ t,t=(tyOf (lX O p) s0).getD 0:=⟨_,rfl⟩
    have HT64:Hid (In64 t):=h! (by rw [ht];exact HV64.out s0)
    have HYJ:Hid (ys[j]? = some t):=h! (by rw [HYS.out,aM,hs0,ht];rfl)
    have HLK:Hid (∀ wg,Below wr.heap.size wr wg -> (Instr.lookup 93 (.map (some pm)) (.int .i64 s0) false).run Tryz.prog wg = .ok (.int .i64 t) wg):=h! (fun wg hbg=>by
     rw [((HI14.out.off HOU.out (fun h=>by have:=HSVL.out _ h;omega)).later hbg).lookup0 Tryz.underlying93 Tryz.underlying3 (gP _) s0,jF,ht]
     cases tyOf (lX O p) s0 <;> rfl)
    have HM3R:=h! ((HOU.out.cellA (p:=⟨g2,k * 4+3,none⟩) (by show g2 < _;omega) HN12.out.2).trans HM3S.out)
    have HCEV:=h! hcelv
    have HFRV:=h! hfrv
    have HSGV:=h! hSgv
    have hg2w:g2 < wr.heap.size:=by omega
    have HRR:Hid (fQ wr wr):=h! (Below.refl _ _)
    clear hfrv hSgf hSgv e2 e5 hs0 hu0 hcelv ht
    go_upto_region 54 with (fail)
    clear hcell
    refine wp_region_grow 9 (fun _=>.plain) (by kernel_rfl) (by kernel_rfl) ?_ (fun ν => ?_)
    ·exact fun _=>trivial
    simp only [aQ,aU,aT,aY]
    iterate 9 (refine Grow.val (v := ?_) rfl rfl (fun wg hbg hdg => ?_) ?_;rotate_left;(focus ((have z3:=(hbg.cell (p:=⟨g2,k * 4+3,none⟩) hg2w).trans HM3R.out;have hlk:=HLK.out wg hbg);clear hbg hdg;first | (go_simp;done) | (go_simp;with_reducible rfl)));simp only [Act.put,aB,aE,aF])
    intro wg hb hf hap
    clear hap
    replace HRR:=h! (HRR.out.later hb)
    clear hf
    have hcl2:=(HRR.out.cell (p:=⟨gv,j,none⟩) hglv).trans HCEV.out
    have hfz2:∀ o,wg.frozen? ⟨gv,o,none⟩=false:=fun o=>(HRR.out.frozen (p:=⟨gv,o,none⟩) hglv).trans (HFRV.out o)
    have HNX:Hid (eV (wg.setCell ⟨gv,j,none⟩ (.int .i64 t)) Sv (.slice (some ⟨gv,0,none⟩) nf cv) (kO ys p.vals (j+1))):=h! (by
     have h9:=eV.set (HOL.out.off (Off.of_below HRR.out Foot.none) (fun _ _ h=>h)) (g:=gv) (cap:=cv) (by rw [lK HLY.out, <-HNV.out]) (i:=j) (by rw [lK HLY.out, <-HNV.out];exact hlt4) HT64.out
     rw [wD HLY.out HYJ.out] at h9
     exact h9)
    have HNO:Hid (Off Sv w14 (wg.setCell ⟨gv,j,none⟩ (.int .i64 t))):=h! ((HOU.out.trans (Off.of_below HRR.out _)).trans ((Off.set wg ⟨gv,j,none⟩ _).mono fun z _ hz=>by have h9:z=gv:=hz;rw [h9];exact HSGV.out))
    clear HRR HOL HSR
    go_wp2
    go_roundw
    case rel=>exact ⟨j+1,hlt4,by go_num,HNX.out,HNO.out⟩
    simp [intOf];omega
   obtain rfl:nf=j:=by omega
   have HYF:Hid (eV wr Sv (.slice av nf cv) ys):=h! (by have h9:=HOL.out;rw [HNV.out,wC HLY.out, <-HNV.out] at h9;exact h9)
   have HOALL:=h! ((HOJ.out.trans (HO14.out.mono fun q _ h=>Or.inr h)).mono fun q _ h=>(show (q=pm \/ Sf q) \/ Sv q from .inl h))
   have HOAL2:=h! (Off.grow (S:=Sf.or Sv) (Off.of_below HBM.out _) (HOALL.out.trans (HOU.out.mono fun q _ h=>Or.inr h)) (fun q hq=>by
    rcases hq with (e | h) | h
    ·exact .inr (by rw [e,HPMW.out];exact aA _)
    ·exact .inl (.inl h)
    exact .inl (.inr h)))
   have HNP1:Hid (gI wr S1 (.slice (some ⟨g2,0,none⟩) nph cp1) (gJ (wJ O) x1.phis (k+1))):=h! (by
    have h9:=HCL2.out wr ss ys HOAL2.out HSR.out HYF.out
    rw [HSQ.out,gU HP.out] at h9
    exact h9)
   have HNO1:Hid (Off S1 w10 wr):=h! (HOK.out.trans (HOAL2.out.mono fun q _ h=>h.elim (HI12.out.1 q) (HI12.out.2 q)))
   clear HOL HSR HYF HOALL HOAL2
   go_wp2
   go_roundw
   case rel=>exact ⟨k+1,hlt3,by go_num,HNP1.out,HNO1.out⟩
   simp [intOf];omega
  obtain rfl:nph=k:=by omega
  have HMAP:Hid (gI wr S1 (.slice ap1 nph cp1) (x1.phis.map (wJ O))):=h! (by have h9:=HOL.out;rw [HNPH.out,iA, <-HNPH.out] at h9;exact h9)
  have HNB1:Hid (eX wr SO (.slice (some ⟨g1,0,none⟩) no co) (gJ (sY O) xs1 (i+1))):=h! (by
   have h9:=HCL10.out wr _ HOK.out HMAP.out
   rw [show ({ x1 with phis:=x1.phis.map (wJ O) }:BlockD)=sY O x1 from rfl,gU HX1.out] at h9
   exact h9)
  have HNO1:Hid (Off SO w9 wr):=h! (HOE10.out.trans (HOK.out.mono fun q _ hq=>HD1.out q hq))
  clear HMAP HOL
  go_wp2
  go_roundw
  case rel=>exact ⟨i+1,hlt2,by go_num,HNB1.out,HNO1.out⟩
  simp [intOf];omega
 obtain rfl:no=i:=by omega
 --@X0
 have HBF:Hid (eX wr SO (.slice ao no co) (renF f O).blocks):=h! (by
  have h9:=HOL.out
  rw [HNX1.out,iA, <-HNX1.out,HXS1.out,wH,HRN.out,HNP.out] at h9
  exact h9)
 clear HOL
 replace HW:=h! (HW.out.trans (HOE.out.below (base:=w.heap.size) HW.out.size (fun k _ hk=>by have:=HSOB.out k hk;omega)))
 replace B2:=h! (B2.out.off HOE.out (fun hk=>HSOX.out _ hk (by simp)))
 replace B5:=h! (B5.out.off HOE.out (fun hk=>HSOX.out _ hk (by simp)))
 replace HQ:=h! (HQ.out.off HOE.out HQO.out)
 --@X1
 have HBH:Hid (Holds [w.heap.size,w.heap.size+1,b4,b4+1,mb,b6] w1.heap.size wr SO (fun W=>eX W SO (.slice ao no co) (renF f O).blocks)):=h! ⟨HBF.out,fun _ _ h hk=>h.keep OBlock.nice hk,HBF.out.lt,HSOB.out,HSOX.out⟩
 clear HBF HOE
 generalize wr=wz at *
 obtain ⟨lB2,cB2,fB2⟩:=B2.out
 obtain ⟨lB5,cB5,fB5⟩:=B5.out
 --@X2
 go_upto_region 58 with (fail)
 repeat (first | go_skip | go_guarded | go_step | go_upon)
 --@X4
 clear lB2 cB2 fB2 lB5 cB5 fB5
 have hO_:=((((Only.set wz (w.heap.size+1) 0 (.slice pa2 np pc2)).put 1 (.int .i64 ar)).put 2 (.int .i64 ce)).put 3 (.slice ao no co))
 replace B5:=h! (B5.out.only hO_ (by first | assumption | (simp;done) | omega))
 replace HQ:=h! ((((HQ.out.other (p:=⟨w.heap.size+1,0,none⟩) (.slice pa2 np pc2) (by simp)).other (p:=⟨w.heap.size+1,1,none⟩) (.int .i64 ar) (by simp)).other (p:=⟨w.heap.size+1,2,none⟩) (.int .i64 ce) (by simp)).other (p:=⟨w.heap.size+1,3,none⟩) (.slice ao no co) (by simp))
 replace HBH:=h! ((((HBH.out.other (p:=⟨w.heap.size+1,0,none⟩) (.slice pa2 np pc2) (by simp)).other (p:=⟨w.heap.size+1,1,none⟩) (.int .i64 ar) (by simp)).other (p:=⟨w.heap.size+1,2,none⟩) (.int .i64 ce) (by simp)).other (p:=⟨w.heap.size+1,3,none⟩) (.slice ao no co) (by simp))
 replace HW:=h! (hO_.2.2 HW.out (by first | assumption | omega | (have:=HW.out.size;omega) | (simp;done) | (simp;omega)))
 replace B2:=h! (Box.to (A':=#[(.slice pa2 np pc2),(.int .i64 ar),(.int .i64 ce),(.slice ao no co)]) ((((B2.out.set 0 (.slice pa2 np pc2)).set 1 (.int .i64 ar)).set 2 (.int .i64 ce)).set 3 (.slice ao no co)) (by first | rfl | simp))
 clear hO_
 generalize ((((wz.setCell ⟨w.heap.size+1,0,none⟩ (.slice pa2 np pc2)).setCell ⟨w.heap.size+1,1,none⟩ (.int .i64 ar)).setCell ⟨w.heap.size+1,2,none⟩ (.int .i64 ce)).setCell ⟨w.heap.size+1,3,none⟩ (.slice ao no co))=wy at *
 obtain ⟨lB2,cB2,fB2⟩:=B2.out
 obtain ⟨lB5,cB5,fB5⟩:=B5.out
 --@X3
 refine bodyPost_ret (v:=.agg #[.slice pa2 np pc2,.int .i64 ar,.int .i64 ce,.slice ao no co]) (by simp [results,Tryz.results37,go_sem,cB2]) rfl ⟨O,_,fun q=>SQ q \/ SO q,HO.out,rfl,⟨⟨_,_,SQ,SO,by rw [HAC.out.1,HAC.out.2];rfl,HQ.out.now,HBH.out.now,HQO.out,fun k h=>.inl h,fun k h=>.inr h⟩,fun k hk=>hk.elim (HQ.out.lt k) (HBH.out.lt k),H64.out.1,H64.out.2⟩,fun k hk => ?_,HW.out⟩
 rcases hk with hk | hk
 ·have:=HQ.out.base k hk;omega
 have:=HBH.out.base k hk;omega
end Go.Proofs.YtagabiidbbhhmaaGreat
