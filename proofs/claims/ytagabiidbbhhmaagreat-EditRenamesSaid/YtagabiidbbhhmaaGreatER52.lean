/- Part 52. -/
import Derived.Test.YtagabiidbbhhmaaGreatER50
import Derived.Test.YtagabiidbbhhmaaGreatER51
namespace Go.Proofs.YtagabiidbbhhmaaGreat
set_option linter.all false
open Go.RowKit
private theorem gA.alloc {w0 W:World} (h:gA w0 W) (o:Obj):gA w0 (W.alloc o):=h.later ((Below.refl _ _).alloc (aB _) o)
set_option maxHeartbeats 25600000 in
set_option maxRecDepth 100000 in
theorem aCM {w:World} {v:Value} {f:FuncD} (hv:fU w v f) (hc:eZ f=0) (hr:gY f 0 0):Calls Tryz.prog 37 #[v] w (vM f w):=by
 have HV:=h! hv
 obtain ⟨ap,cp,ab,cb,rfl,hp,ha,pn,hB⟩:=hv.form
 have sy:=h! hc
 have fa:=h! (mS hr)
 have HF:=h! (fC hc).1
 have nn:=h! (mN hc)
 obtain ⟨np,mk⟩ : ∃ np,np=f.params.length:=⟨_,rfl⟩
 obtain ⟨ar,mf⟩ : ∃ ar,ar=f.arrays:=⟨_,rfl⟩
 obtain ⟨ce,mi⟩ : ∃ ce,ce=f.cells:=⟨_,rfl⟩
 obtain ⟨nb,hV⟩ : ∃ nb,nb=f.blocks.length:=⟨_,rfl⟩
 rw [<-hV, <-mk, <-mf, <-mi] at HV
 rw [<-hV, <-mk, <-mf, <-mi]
 have hn1:1 <= nb:=by rw [hV];exact (iE HF.out).1
 have h512:nb <= 512:=by rw [hV];exact (iE HF.out).2
 have ee:=h! hV
 have kk:=h! mk
 have lw:Hid (ar=f.arrays/\ce=f.cells):=h! ⟨mf,mi⟩
 clear hp ha pn hB hv mk hV mf mi hc hr
 go_enter Tryz.func37,Tryz.ntmps37
 go_upto_region 1 with (fail)
 have ac:=(Below.refl w.heap.size w).alloc (aB _) (.cells #[.slice ap np cp,.int .i64 ar,.int .i64 ce,.slice ab nb cb] 25)
 have HW:=h! ac
 clear ac
 have B1:=h! (Box.new w #[.slice ap np cp,.int .i64 ar,.int .i64 ce,.slice ab nb cb] 25)
 have ds:(w.alloc (.cells #[.slice ap np cp,.int .i64 ar,.int .i64 ce,.slice ab nb cb] 25)).heap.size=w.heap.size+1:=World.size_alloc _ _
 generalize w.alloc (.cells #[.slice ap np cp,.int .i64 ar,.int .i64 ce,.slice ab nb cb] 25)=lj at *
 have ac:=(Below.refl lj.heap.size lj).alloc (aB _) (.cells #[.slice none 0 0,.int .i64 0,.int .i64 0,.slice none 0 0] 25)
 replace B1:=h! (B1.out.later ac)
 replace HW:=h! (HW.out.trans (ac.mono HW.out.size))
 clear ac
 have B2:=h! (Box.new lj #[.slice none 0 0,.int .i64 0,.int .i64 0,.slice none 0 0] 25)
 rw [ds] at B2
 clear ds
 generalize lj.alloc (.cells #[.slice none 0 0,.int .i64 0,.int .i64 0,.slice none 0 0] 25)=wv at *
 obtain ⟨bw,cy,de⟩:=B1.out
 obtain ⟨aq,be,bk⟩:=B2.out
 go_wp2_with fail
 refine (vP (HV.out.below HW.out) HF.out).mono ?_
 rintro e w1 ⟨bg,O,rfl,hO,⟨g0,g1,g2,g3,pv,ov,lv,e0,hbg,hwbg,vl,rc,si⟩,hb⟩
 obtain ⟨rfl,rfl,rfl,rfl⟩ : Value.slice ap np cp=g0/\Value.int .i64 ar=g1/\Value.int .i64 ce=g2/\Value.slice ab nb cb=g3:=by simpa using e0
 obtain ⟨la,lc,lb,lo,rfl,va,vg,nl,qy⟩:=si.parts
 obtain ⟨oa,oc,ob,oo,rfl,vh,hom,ny,ns⟩:=rc.parts
 obtain ⟨no,hN⟩ : ∃ no,no=O.length:=⟨_,rfl⟩
 rw [fY, <-ee.out] at va nl qy hbg
 rw [fT, <-hN] at vh ny ns hbg
 have sv:=nD hO fa.out 0 (by have:=ee.out;omega)
 have hno1:1 <= no:=by rw [hN];exact List.length_pos_of_mem sv
 have hno2:no <= nb:=by rw [hN,ee.out];exact hO.le
 obtain ⟨rfl,rf⟩:=nl (by omega)
 obtain ⟨rfl,tx⟩:=ny (by omega)
 have dl:=h! hN
 have HO:=h! hO
 have ls:=h! hbg
 have sc:=h! (nD hO fa.out)
 have sn:Hid (∀ q:Int,q.toNat < nb -> q.toNat ∈ O -> w1.cell? ⟨lb,lo+q.toNat,none⟩=some (.int .i64 (plO O q))):=h! (fun q h1 h2=>by
  rw [qy q.toNat h1]
  rw [getD_some (aC3 (n:=nb) h2 h1)])
 have tl:Hid (∀ (i b:Nat),O[i]? = some b -> w1.cell? ⟨ob,oo+i,none⟩=some (.int .i64 (b:Int))):=h! (fun i b hi=>by
  rw [ns i (by rw [hN];exact (aF.1 hi).1)]
  rw [getD_some (x:=(b:Int)) (by unfold natI;rw [aQ,hi];rfl)])
 have fq:Hid (∀ q:Int,q.toNat ∈ O -> In64 (plO O q)):=h! (fun q hq=>by
  have:=bM hq
  unfold plO
  exact ⟨by omega,by omega⟩)
 have vi:Hid (Named np (idsO f O)):=h! (by rw [kk.out];exact rQ sy.out hO fa.out)
 have nm:Hid (np+(idsO f O).length <= 4112):=h! (by rw [kk.out];exact pC sy.out hO fa.out)
 have hnp4:np <= 4112:=by have:=nm.out;omega
 obtain ⟨rn,ql⟩ : ∃ rn,rn=renV np (idsO f O):=⟨_,rfl⟩
 have nz:=h! ql
 have hh:Hid (∀ v,In64 (rn v)):=h! (fun v=>by rw [ql];exact sZ (qE (by have:=nm.out;omega)) v)
 have ae:Hid (Holds [] 0 w1 (fun k=>k < w1.heap.size) (OldK w1)):=h! (pB w1)
 have hbgl:bg < w1.heap.size:=hbg.lt
 clear vl rc si qy ns nl ny hbg hN ql sv hO e0
 clear bw cy de aq be bk
 replace B1:=h! (B1.out.later hb)
 replace B2:=h! (B2.out.later hb)
 replace HW:=h! (HW.out.trans (hb.mono HW.out.size))
 clear hb
 obtain ⟨bw,cy,de⟩:=B1.out
 obtain ⟨aq,be,bk⟩:=B2.out
 go_wp2_with fail
 refine (aFV (HV.out.below HW.out) nn.out.1 nn.out.2).mono ?_
 rintro e w2 ⟨vo,SO0,rfl,vd,qw,hb⟩
 obtain ⟨⟨pa,bv,SQ,SB,rfl,hQ,hW,rz,sa,ra⟩,gq,li,jw⟩:=vd
 obtain ⟨bf,bh,rfl⟩:=hQ.ints.form
 have rd:=h! (And.intro li jw)
 have hl1:w.heap.size+1+1 <= w1.heap.size:=aq
 have HQ:Hid (Holds [w.heap.size,w.heap.size+1] w1.heap.size w2 SQ (fun W=>eU W SQ (.slice bf np bh) f.params)):=h! (by
  have h9:=(gH hQ (fun k hk=>qw k (sa k hk))).low (bs':=[w.heap.size,w.heap.size+1]) (by intro z hz;simp at hz;omega)
  rw [<-kk.out] at h9;exact h9)
 have br:Hid ((∀ k,SB k -> w1.heap.size <= k/\k < w2.heap.size)/\SQ.off SB /\ ∀ k,SQ k -> k < w2.heap.size):=h! ⟨fun k hk=>⟨qw k (ra k hk),hW.lt k hk⟩,rz,hQ.lt⟩
 obtain ⟨cs,G,F,hp⟩:=hW
 obtain ⟨g,cap,lf,nr, -, -,sz, -, -⟩:=hp.row.addr (by have:=ee.out;omega)
 rw [<-ee.out] at lf
 subst lf
 have HP:Hid (Holds [w.heap.size,w.heap.size+1] w1.heap.size w2 SB (fun W=>OParts OBlock 63 6 W SB (.slice (some ⟨g,0,none⟩) nb cap) f.blocks cs G F)):=h! ⟨hp,fun _ _ h hk=>h.keep OBlock.nice hk,hp.lt,fun k hk=>(br.out.1 k hk).1,fun k hk=>by have:=(br.out.1 k hk).1;simp;omega⟩
 have ts:=h! (hp.inG g nr)
 have oq:=h! nr
 rw [<-lw.out.1, <-lw.out.2, <-kk.out]
 clear hQ hp rz sa ra gq qw nr li jw
 have qj:w1.heap.size <= w2.heap.size:=hb.size
 clear bw cy de aq be bk
 replace B1:=h! (B1.out.later hb)
 replace B2:=h! (B2.out.later hb)
 replace ae:=h! (ae.out.later hb)
 replace HW:=h! (HW.out.trans (hb.mono HW.out.size))
 clear hb
 obtain ⟨bw,cy,de⟩:=B1.out
 obtain ⟨aq,be,bk⟩:=B2.out
 go_upto_region 5 with (fail)
 replace HQ:=h! ((HQ.out.more (aB _)).more (b:=w2.heap.size+1) (Nat.le_succ _))
 replace HP:=h! ((HP.out.more (aB _)).more (b:=w2.heap.size+1) (Nat.le_succ _))
 have ft:w2.heap.size ≠ w.heap.size:=fun e=>by have:=bw;omega
 have kl:w.heap.size ≠ w2.heap.size:=fun e=>ft e.symm
 have fB:w2.heap.size ≠ w.heap.size+1:=fun e=>by have:=aq;omega
 have jk:w.heap.size+1 ≠ w2.heap.size:=fun e=>fB e.symm
 have fz:w2.heap.size+1 ≠ w.heap.size:=fun e=>by have:=bw;omega
 have im:w.heap.size ≠ w2.heap.size+1:=fun e=>fz e.symm
 have fx:w2.heap.size+1 ≠ w.heap.size+1:=fun e=>by have:=aq;omega
 have iw:w.heap.size+1 ≠ w2.heap.size+1:=fun e=>fx e.symm
 have ih:w2.heap.size+1 ≠ w2.heap.size:=by omega
 have kt:w2.heap.size ≠ w2.heap.size+1:=by omega
 clear bw cy de aq be bk
 have ac:=(Below.refl w2.heap.size w2).alloc (aB _) (.cells #[.slice bf np bh,.int .i64 ar,.int .i64 ce,.slice (some ⟨g,0,none⟩) nb cap] 25)
 replace B1:=h! (B1.out.later ac)
 replace B2:=h! (B2.out.later ac)
 replace ae:=h! (ae.out.later ac)
 replace HQ:=h! (HQ.out.later ac)
 replace HP:=h! (HP.out.later ac)
 replace HW:=h! (HW.out.trans (ac.mono HW.out.size))
 clear ac
 have B4:=h! (Box.new w2 #[.slice bf np bh,.int .i64 ar,.int .i64 ce,.slice (some ⟨g,0,none⟩) nb cap] 25)
 have ds:(w2.alloc (.cells #[.slice bf np bh,.int .i64 ar,.int .i64 ce,.slice (some ⟨g,0,none⟩) nb cap] 25)).heap.size=w2.heap.size+1:=World.size_alloc _ _
 generalize w2.alloc (.cells #[.slice bf np bh,.int .i64 ar,.int .i64 ce,.slice (some ⟨g,0,none⟩) nb cap] 25)=fk at *
 have ac:=(Below.refl fk.heap.size fk).alloc (aB _) (.cells #[.slice bf np bh,.int .i64 ar,.int .i64 ce,.slice none 0 0] 25)
 replace B1:=h! (B1.out.later ac)
 replace B2:=h! (B2.out.later ac)
 replace B4:=h! (B4.out.later ac)
 replace ae:=h! (ae.out.later ac)
 replace HQ:=h! (HQ.out.later ac)
 replace HP:=h! (HP.out.later ac)
 replace HW:=h! (HW.out.trans (ac.mono HW.out.size))
 clear ac
 have B5:=h! (Box.new fk #[.slice bf np bh,.int .i64 ar,.int .i64 ce,.slice none 0 0] 25)
 rw [ds] at B5
 clear ds
 generalize fk.alloc (.cells #[.slice bf np bh,.int .i64 ar,.int .i64 ce,.slice none 0 0] 25)=w4 at *
 obtain ⟨bw,cy,de⟩:=B1.out
 obtain ⟨aq,be,bk⟩:=B2.out
 obtain ⟨cg,dj,df⟩:=B4.out
 obtain ⟨ax,bn,bo⟩:=B5.out
 have sw:w2.heap.size+1 < w4.heap.size:=ax
 obtain ⟨b4,pz⟩ : ∃ b4,b4=w2.heap.size:=⟨_,rfl⟩
 rw [<-pz] at HQ HP br B4 B5 qj sw sz
 simp only [<-pz]
 clear pz
 have qe:=@run_makeMap Tryz.prog
 go_upto_region 6 with (fail)
 clear qe
 have HI:=h! (IMap.new w4)
 have er:=(Below.refl w4.heap.size w4).alloc (aB _) (.map #[] 0)
 clear bw cy de aq be bk cg dj df ax bn bo
 replace B1:=h! (B1.out.later er)
 replace B2:=h! (B2.out.later er)
 replace B4:=h! (B4.out.later er)
 replace B5:=h! (B5.out.later er)
 replace ae:=h! (ae.out.later er)
 replace HQ:=h! (HQ.out.later er)
 replace HP:=h! (HP.out.later er)
 replace HW:=h! (HW.out.trans (er.mono HW.out.size))
 clear er
 obtain ⟨bw,cy,de⟩:=B1.out
 obtain ⟨aq,be,bk⟩:=B2.out
 obtain ⟨cg,dj,df⟩:=B4.out
 obtain ⟨ax,bn,bo⟩:=B5.out
 obtain ⟨mb,mj⟩ : ∃ mb,mb=w4.heap.size:=⟨_,rfl⟩
 rw [<-mj] at HI sw
 simp only [<-mj]
 have pi:(w4.alloc (.map #[] 0)).heap.size=mb+1:=by rw [World.size_alloc,mj]
 clear mj
 generalize w4.alloc (.map #[] 0)=w5 at *
 have ta:mb < w5.heap.size:=HI.out.lt
 have gc:w5.heap.size ≠ w.heap.size:=fun e=>by have:=bw;omega
 have kb:w.heap.size ≠ w5.heap.size:=fun e=>gc e.symm
 have gi:w5.heap.size ≠ w.heap.size+1:=fun e=>by have:=aq;omega
 have jh:w.heap.size+1 ≠ w5.heap.size:=fun e=>gi e.symm
 have fy:w5.heap.size ≠ b4:=fun e=>by have:=cg;omega
 have ji:b4 ≠ w5.heap.size:=fun e=>fy e.symm
 have gd:w5.heap.size ≠ b4+1:=fun e=>by have:=ax;omega
 have jl:b4+1 ≠ w5.heap.size:=fun e=>gd e.symm
 clear bw cy de aq be bk cg dj df ax bn bo
 have ac:=(Below.refl w5.heap.size w5).alloc (aB _) (.cells #[.map (some mb)] 93)
 replace B1:=h! (B1.out.later ac)
 replace B2:=h! (B2.out.later ac)
 replace B4:=h! (B4.out.later ac)
 replace B5:=h! (B5.out.later ac)
 replace ae:=h! (ae.out.later ac)
 replace HQ:=h! (HQ.out.later ac)
 replace HP:=h! (HP.out.later ac)
 replace HI:=h! (HI.out.later ac)
 replace HW:=h! (HW.out.trans (ac.mono HW.out.size))
 clear ac
 have B6:=h! (Box.new w5 #[.map (some mb)] 93)
 generalize w5.alloc (.cells #[.map (some mb)] 93)=w6 at *
 obtain ⟨bw,cy,de⟩:=B1.out
 obtain ⟨aq,be,bk⟩:=B2.out
 obtain ⟨cg,dj,df⟩:=B4.out
 obtain ⟨ax,bn,bo⟩:=B5.out
 obtain ⟨dv,em,ej⟩:=B6.out
 obtain ⟨b6,ma⟩ : ∃ b6,b6=mb+1:=⟨_,rfl⟩
 rw [pi, <-ma] at B6
 rw [pi, <-ma] at ta
 simp only [<-ma]
 clear ma pi
 have th:b6 < w6.heap.size:=B6.out.lt
 clear gc kb gi jh fy ji gd jl ft kl fB jk fz im fx iw ih kt
 go_wp2_with fail
 clear bw cy de aq be bk cg dj df ax bn bo dv em ej
 go_loopw [36] (fun iv wr => ∃ j:Nat,j <= np/\iv = .int .i64 j/\IMap wr mb (encT (parJ j))/\Turn [mb] w6 wr) (fun iv _=>np - (intOf iv).toNat)
 case atStart=>exact ⟨0,aJ _,rfl,HI.out,Turn.refl _ _⟩
 obtain ⟨j,hj,rfl,hI,hT⟩:=hrel
 replace HI:=h! hI
 have HT:=h! hT
 clear hI hT
 generalize wr=w7 at *
 have aw:Hid (Off (Foot.one mb) w6 w7):=h! HT.out.off
 replace B6:=h! (B6.out.off aw.out (fun h=>by have e:b6=mb:=h;omega))
 by_cases gq:j < np
 ·skip
  obtain ⟨dv,em,ej⟩:=B6.out
  go_wp2_with (at_mapUpdate;refine gE (q:=.i64) (b:=mb) (mm:=encT (parJ j)) (y:=j) rfl _ _ _ _ (.inl rfl) Tryz.underlying93 Tryz.underlying3 rfl HI.out rfl ?_;intro w9 jg pe ki;have tc:=h! jg;have rb:=h! ki;clear jg pe ki)
  go_roundw
  case rel=>exact ⟨j+1,gq,by go_num,by rw [<-aAY];exact tc.out,HT.out.trans rb.out⟩
  simp [intOf];omega
 obtain rfl:np=j:=by omega
 replace HI:Hid (IMap w7 mb (encT (fN np []))):=h! (by rw [aAZ];exact HI.out)
 replace HW:=h! (HW.out.trans (aw.out.below HW.out.size (fun k _ hk=>by cases hk;omega)))
 replace B1:=h! (B1.out.off aw.out (fun h=>by have e:w.heap.size=mb:=h;omega))
 replace B2:=h! (B2.out.off aw.out (fun h=>by have e:w.heap.size+1=mb:=h;omega))
 replace B4:=h! (B4.out.off aw.out (fun h=>by have e:b4=mb:=h;omega))
 replace B5:=h! (B5.out.off aw.out (fun h=>by have e:b4+1=mb:=h;omega))
 replace ae:=h! (ae.out.off aw.out (fun k h1 h2=>by cases h2;omega))
 replace HQ:=h! (HQ.out.off aw.out (fun k h1 h2=>by cases h2;have:=br.out.2.2 mb h1;omega))
 replace HP:=h! (HP.out.off aw.out (fun k h1 h2=>by cases h2;have:=br.out.1 mb h1;omega))
 have hz7:b6 < w7.heap.size:=B6.out.lt
 clear HT aw th
 obtain ⟨bw,cy,de⟩:=B1.out
 obtain ⟨aq,be,bk⟩:=B2.out
 obtain ⟨cg,dj,df⟩:=B4.out
 obtain ⟨ax,bn,bo⟩:=B5.out
 obtain ⟨dv,em,ej⟩:=B6.out
 obtain ⟨lG,cG,fG⟩:=ae.out.now.box ls.out
 go_wp2_with fail
 clear lG cG fG
 clear bw cy de aq be bk cg dj df ax bn bo dv em ej
 --@A
 have kj:=HP
 have td:=HQ
 clear HP HQ
 go_loopw [49] (fun iv wr => ∃ (i:Nat) (SO:Foot) (ao:Option Addr) (co:Nat),i <= no/\iv = .int .i64 i/\OffF (fun k=>k=mb \/ k=b4+1 \/ ∃ d,d ∈ O.take i/\F d k) w7 wr/\IMap wr mb (encT (fN np (idsO f (O.take i))))/\Box wr (b4+1) #[.slice bf np bh,.int .i64 ar,.int .i64 ce,.slice ao i co] /\
   Holds [w.heap.size,w.heap.size+1,b4,b4+1,mb,b6] w1.heap.size wr SO (fun W=>fA W SO (.slice ao i co) ((O.take i).map fun b=>idB rn O (jO f b))) /\ ∀ k,SO k -> (∃ d,d ∈ O.take i/\F d k) \/ w7.heap.size <= k) (fun iv _=>no - (intOf iv).toNat)
 case atStart=>exact ⟨0,Foot.none,none,0,aJ _,rfl,Off.refl _ _,HI.out,B5.out,⟨OSl.nil none,fun _ _ h hk=>h.keep OBlock.nice hk,fun k h=>h.elim,fun k h=>h.elim,fun k h=>h.elim⟩,fun k h=>h.elim⟩
 obtain ⟨i,SO,ao,co,hi,rfl,ei,hI,sx,ri,sr⟩:=hrel
 have cr:=h! ei
 replace HI:=h! hI
 replace B5:=h! sx
 have gl:=h! ri
 have ia:=h! sr
 clear ei hI sx ri sr
 have hs:Hid (∀ d,d ∈ O -> ∀ k,F d k -> SB k):=h! (fun d hd k hk=>kj.out.now.inF d k (HO.out.facts.2.2.1 d hd) hk)
 have hR:Hid (∀ k,(k=mb \/ k=b4+1 \/ ∃ d,d ∈ O.take i/\F d k) -> w1.heap.size <= k/\(k < b4 \/ k=mb \/ k=b4+1) /\ ¬ SQ k):=h! (fun k hk=>by
  rcases hk with rfl | rfl | ⟨d,hd,hk⟩
  ·exact ⟨by omega,.inr (.inl rfl),fun h=>by have:=br.out.2.2 _ h;omega⟩
  ·exact ⟨by omega,.inr (.inr rfl),fun h=>by have:=br.out.2.2 _ h;omega⟩
  have h1:=hs.out d (cU hd) k hk
  have h2:=br.out.1 k h1
  exact ⟨h2.1,.inl h2.2,fun h=>br.out.2.1 k h h1⟩)
 replace HW:=h! (HW.out.trans (Off.below cr.out HW.out.size (fun k _ hk=>by have:=(hR.out k hk).1;omega)))
 replace B2:=h! (B2.out.off cr.out (fun h=>by have:=(hR.out _ h).1;omega))
 replace B4:=h! (B4.out.off cr.out (fun h=>by have:=(hR.out _ h).2.1;omega))
 replace B6:=h! (B6.out.off cr.out (fun h=>by have:=(hR.out _ h).2.1;omega))
 replace ae:=h! (ae.out.off cr.out (fun k h1 h2=>by have:=(hR.out k h2).1;omega))
 generalize wr=w8 at *
 have od:w7.heap.size <= w8.heap.size:=Off.size cr.out
 --@G0
 by_cases gq:i < no
 ·obtain ⟨b,hY⟩ : ∃ b,O[i]? = some b:=⟨_,aC (by rw [<-dl.out];exact gq)⟩
  --@G6
  have ix:b ∈ O:=aG hY
  have rs:b < nb:=by rw [ee.out];exact HO.out.facts.2.2.1 b ix
  obtain ⟨x,hx⟩ : ∃ x,f.blocks[b]? = some x:=⟨_,aC (by rw [<-ee.out];exact rs)⟩
  have oj:Hid (jO f b=x):=h! (jS hx)
  --@G7
  have rv:b ∉ O.take i:=vN HO.out.facts.1 hY
  have qk:b < f.blocks.length:=by rw [<-ee.out];exact rs
  --@G5
  have nk:∀ k,F b k -> ¬ (k=mb \/ k=b4+1 \/ ∃ d,d ∈ O.take i/\F d k):=fun k h1 h2=>by
   have h3:=br.out.1 k (hs.out b ix k h1)
   rcases h2 with e | e | ⟨d,hd,h2⟩
   ·omega
   ·omega
   exact kj.out.now.apart b d qk (HO.out.facts.2.2.1 d (cU hd)) (fun e=>rv (e ▸ hd)) k h1 h2
  --@G1
  have tk:=br.out.1 g ts.out
  have rg:¬ (g=mb \/ g=b4+1 \/ ∃ d,d ∈ O.take i/\F d g):=fun h2=>by
   rcases h2 with e | e | ⟨d,hd,h2⟩
   ·omega
   ·omega
   exact kj.out.now.free d (HO.out.facts.2.2.1 d (cU hd)) g h2 oq.out
  --@G2
  have rl:=OBlock.nice.off (kj.out.now.el b x hx) cr.out nk
  obtain ⟨apx,db,dg,cpx,bt,ci,S1,S2,S3,hX,h1,h2,h3,ks,rx,rj,i1,i2,i3,q1,q2,q3,dn⟩:=rl.parts
  obtain ⟨g',nv,lf, -, -, -, -,ai,pq⟩:=kj.out.now.row.addr (by omega)
  obtain ⟨rfl,rfl⟩ : g=g' /\ cap=nv:=by injection lf with h1 h2 h3;injection h1 with h1;injection h1 with h1;exact ⟨h1,h3⟩
  have vb:g < w7.heap.size:=by omega
  have hc:∀ o u,o < 6 -> (iR cs 6 b)[o]? = some u -> w8.cell? ⟨g,b * 6+o,none⟩=some u:=fun o u ho hu=>(Off.cell cr.out vb rg).trans (ai _ _ (by rw [<-jQ ho];exact hu))
  rw [hX] at hc
  have k0:=hc 0 _ (by omega) rfl
  have k1:=hc 1 _ (by omega) rfl
  have k2:=hc 2 _ (by omega) rfl
  have k3:=hc 3 _ (by omega) rfl
  have k4:=hc 4 _ (by omega) rfl
  have k5:=hc 5 _ (by omega) rfl
  rw [Nat.add_zero] at k0
  have ko:=(ae.out.now.cell tx).trans (tl.out i b hY)
  have iq:=h! (nn.out.1 x (aG hx))
  have tv:=h! (mF HF.out hx)
  --@G3
  obtain ⟨npx,fo⟩ : ∃ n,n=x.phis.length:=⟨_,rfl⟩
  obtain ⟨az,ex⟩ : ∃ n,n=x.code.length:=⟨_,rfl⟩
  obtain ⟨bc,fh⟩ : ∃ n,n=x.term.to.length:=⟨_,rfl⟩
  rw [<-fo] at k0 h1 dn hX
  rw [<-ex] at k1 h2 dn hX
  rw [<-fh] at k4 h3 dn hX
  have ct:=h! fo
  have cz:=h! ex
  have dc:=h! fh
  have hnpb:npx <= 100000:=by rw [fo];exact iq.out.1
  have hncb:az <= 100000:=by rw [ex];exact iq.out.2
  have hntb:bc <= 17592186044416:=by have h9:=h3.1.big;rw [<-fh] at h9;exact h9
  have te:=h! hX
  have qh:=h! dn
  have gj:=h! (And.intro ks (And.intro rx rj))
  have cF:=h! (And.intro i1 (And.intro i2 i3))
  have ed:Hid (∀ k,F b k -> w1.heap.size <= k/\k < b4):=h! (fun k hk=>br.out.1 k (hs.out b ix k hk))
  have ty:=h! nk
  have HX:=h! hx
  have lp:=h! hY
  have HBO:=h! ix
  have H1:Hid (Holds [] w1.heap.size w8 S1 (fun W=>fS W S1 (.slice apx npx cpx) x.phis)):=h! (mH OPhi.nice h1 (fun k hk=>(ed.out k (i1 k hk)).1))
  have H2:Hid (Holds [] w1.heap.size w8 S2 (fun W=>gL W S2 (.slice db az bt) x.code)):=h! (mH OInstr.nice h2 (fun k hk=>(ed.out k (i2 k hk)).1))
  have H3:Hid (Holds [] w1.heap.size w8 S3 (fun W=>eU W S3 (.slice dg bc ci) x.term.to)):=h! (gH h3 (fun k hk=>(ed.out k (i3 k hk)).1))
  --@G4
  obtain ⟨pre,fe⟩ : ∃ pre,pre=idsO f (O.take i):=⟨_,rfl⟩
  obtain ⟨post,bq⟩:=aAW (f:=f) hY
  rw [oj.out,pD, <-fe] at bq
  have kL:Hid (Named np (pre ++ (fH x.phis ++ fD x.code) ++ post)):=h! (by rw [<-bq];exact vi.out)
  have kP:Hid (rn=renV np (pre ++ (fH x.phis ++ fD x.code) ++ post)):=h! (by rw [<-bq];exact nz.out)
  have HSMX:Hid (np+(pre ++ (fH x.phis ++ fD x.code) ++ post).length <= 4112):=h! (by rw [<-bq];exact nm.out)
  have qc:=h! fe
  rw [<-fe] at HI
  clear lf ai hc rl hx hY nk rg pq hX h1 h2 h3 ks rx rj i1 i2 i3 q1 q2 q3 dn fo ex fh fe bq ix rv tk
  obtain ⟨cg,dj,df⟩:=B4.out
  obtain ⟨ax,bn,bo⟩:=B5.out
  obtain ⟨dv,em,ej⟩:=B6.out
  --@B0
  go_upto_region 16 with (fail)
  --@B1
  have jf:w8.heap.size ≠ b4:=fun e=>by have:=cg;omega
  have nB4BL:b4 ≠ w8.heap.size:=fun e=>jf e.symm
  have jy:w8.heap.size ≠ b4+1:=fun e=>by have:=ax;omega
  have nB5BL:b4+1 ≠ w8.heap.size:=fun e=>jy e.symm
  have jp:w8.heap.size ≠ b6:=fun e=>by have:=dv;omega
  have nB6BL:b6 ≠ w8.heap.size:=fun e=>jp e.symm
  clear cg dj df ax bn bo dv em ej
  have ac:=(Below.refl w8.heap.size w8).alloc (aB _) (.cells #[.slice apx npx cpx,.slice db az bt,.int .i64 x.term.op,.int .i64 x.term.val,.slice dg bc ci,.int .i64 x.term.n] 63)
  replace B4:=h! (B4.out.later ac)
  replace B5:=h! (B5.out.later ac)
  replace B6:=h! (B6.out.later ac)
  replace cr:=h! (cr.out.later ac)
  replace HI:=h! (HI.out.later ac)
  replace gl:=h! (gl.out.later ac)
  replace ae:=h! (ae.out.later ac)
  replace H1:=h! (H1.out.later ac)
  replace H2:=h! (H2.out.later ac)
  replace H3:=h! (H3.out.later ac)
  replace HW:=h! (HW.out.trans (ac.mono HW.out.size))
  clear ac
  have BL:=h! (Box.new w8 #[.slice apx npx cpx,.slice db az bt,.int .i64 x.term.op,.int .i64 x.term.val,.slice dg bc ci,.int .i64 x.term.n] 63)
  generalize w8.alloc (.cells #[.slice apx npx cpx,.slice db az bt,.int .i64 x.term.op,.int .i64 x.term.val,.slice dg bc ci,.int .i64 x.term.n] 63)=w9 at *
  obtain ⟨cg,dj,df⟩:=B4.out
  obtain ⟨ax,bn,bo⟩:=B5.out
  obtain ⟨dv,em,ej⟩:=B6.out
  obtain ⟨pc,mw,qd⟩:=BL.out
  clear k0 k1 k2 k3 k4 k5 ko
  clear cg dj df ax bn bo dv em ej pc mw qd
  obtain ⟨bl,hg⟩ : ∃ bl,bl=w8.heap.size:=⟨_,rfl⟩
  have nc:Hid (w8.heap.size <= bl):=h! (by omega)
  rw [<-hg] at BL od
  simp only [<-hg]
  clear hg
  obtain ⟨cg,dj,df⟩:=B4.out
  obtain ⟨ax,bn,bo⟩:=B5.out
  obtain ⟨dv,em,ej⟩:=B6.out
  obtain ⟨pc,mw,qd⟩:=BL.out
  --@B2
  go_wp2_with fail
  clear cg dj df ax bn bo dv em ej pc mw qd
  --@B
  have me:Hid (w1.heap.size <= mb/\w1.heap.size <= w9.heap.size):=h! ⟨by omega,by have:=BL.out.lt;omega⟩
  have ad:Hid (bl ≠ mb/\b6 ≠ mb /\ ¬ S1 bl /\ ¬ S1 b6 /\ ¬ S2 bl /\ ¬ S2 b6 /\ ¬ S3 bl/\(∀ q,S1 q -> q < b4)/\(∀ q,S2 q -> q < b4)/\(∀ q,S3 q -> q < b4)):=h! (by
   have e1:=fun q h=>(ed.out q (cF.out.1 q h)).2
   have e2:=fun q h=>(ed.out q (cF.out.2.1 q h)).2
   have e3:=fun q h=>(ed.out q (cF.out.2.2 q h)).2
   exact ⟨by omega,by omega,fun h=>by have:=e1 _ h;omega,fun h=>by have:=e1 _ h;omega,fun h=>by have:=e2 _ h;omega,fun h=>by have:=e2 _ h;omega,fun h=>by have:=e3 _ h;omega,e1,e2,e3⟩)
  go_loopw [61] (fun kv wr => ∃ k:Nat,k <= npx/\kv = .int .i64 k/\fS wr S1 (.slice apx npx cpx) (gC (idP rn) x.phis k)/\IMap wr mb (encT (fN np (pre ++ fH (x.phis.take k))))/\Off (fun q=>q=mb \/ S1 q) w9 wr) (fun kv _=>npx - (intOf kv).toNat)
  case atStart=>exact ⟨0,aJ _,rfl,by rw [fR];exact H1.out.now,by rw [show pre ++ fH (x.phis.take 0)=pre from bY _];exact HI.out,Off.refl _ _⟩
  obtain ⟨k,hk,rfl,ba,hI,ho⟩:=hrel
  have ag:=h! ba
  have ec:=h! hI
  have bx:=h! ho
  clear ba hI ho
  have jc:Hid (Box wr bl #[.slice apx npx cpx,.slice db az bt,.int .i64 x.term.op,.int .i64 x.term.val,.slice dg bc ci,.int .i64 x.term.n]):=h! (BL.out.off bx.out (fun h=>h.elim ad.out.1 ad.out.2.2.1))
  have og:Hid (Box wr b6 #[.map (some mb)]):=h! (B6.out.off bx.out (fun h=>h.elim ad.out.2.1 ad.out.2.2.2.1))
  by_cases hlt2:k < npx
  ·obtain ⟨p,hp⟩ : ∃ p,x.phis[k]? = some p:=⟨_,aC (by rw [<-ct.out];exact hlt2)⟩
   obtain ⟨g1,hA,af,av,cf,cv,Sv,hv,ay,cx,hZ,bd, -, -, -, -⟩:=fS.vals ag.out (j:=k) (p:=p) (by rw [fW];exact hp)
   rw [eV, <-ct.out] at hv
   injection hv with e1 e2 e3
   subst e1
   subst e3
   obtain ⟨am,aj,ak⟩:=aC4 kL.out hp
   rw [<-kP.out] at ak
   obtain ⟨T,hT⟩ : ∃ T,T=fN np (pre ++ fH (x.phis.take k)):=⟨_,rfl⟩
   rw [<-hT] at am aj ak ec
   obtain ⟨tn,hw⟩ : ∃ tn,tn=T.length:=⟨_,rfl⟩
   rw [<-hw] at aj ak
   have eh:=h! am
   have dr:=h! aj
   have eo:=h! ak
   have qa:=h! hw
   have rb:=h! hT
   have HP:=h! hp
   have lq:=h! hZ.c0
   have cw:=h! bd
   have ig:=h! cx
   have tw:g1 < b4:=ad.out.2.2.2.2.2.2.2.1 g1 cx
   clear am aj ak hw hT hp hZ bd cx e2
   have fw:Hid (¬ Foot.one mb g1):=h! (fun h=>by have e:g1=mb:=h;omega)
   --@C1
   go_upto_region 19 with (fail)
   --@C2
   refine qT 13 10 (fun q=>q=mb) (.int .i64 (tn:Int)) (fun W=>IMap W mb (encT (T ++ [(p.id,(tn:Int))]))/\Off (Foot.one mb) wr W) (fun _ _=>False) (by kernel_rfl) (by kernel_rfl) (by omega) (fun W W' h hb=>⟨h.1.later hb,h.2.trans (Off.of_below hb _)⟩) (fun ch a' w' _ hz=>hz.elim) ?_
   --@C5
   simp only [aO,aS,aP,aU]
   --@C6
   iterate 10 ((refine lI.val (v' := ?_) (by omega) rfl (fun wg hbg => ?_) ?_);(rotate_left);(focus ((have ei:Off (Foot.one mb) wr wg:=hbg.elim (fun h=>Off.of_below h _) (fun h=>h.2));(obtain ⟨lL,cL,fL⟩:=jc.out.off ei (fun h=>ad.out.1 h));(have m0:=(ei.cellA (p:=⟨g1,k * 4,none⟩) ay fw.out).trans lq.out);clear ei hbg;first | (go_simp;done) | (go_simp;with_reducible rfl)));(simp only [Act.put,aA,aD,aE]))
   have oi:∀ (args:Array Value) (w:World),(callFunc 73 args).run Tryz.prog w = .ok (.enter 73 args) w:=qD
   --@C3
   refine lI.call (f := ?_) (args := ?_) (by omega) rfl (fun wg => ?_) (fun wg hbg => ?_) ?_
   rotate_left 2
   focus (first | (go_simp;done) | (go_simp;refine And.intro ?_ ?_ <;> with_reducible rfl) | (go_simp;with_reducible rfl))
   ·refine (aDQ (og.out.later hbg) (ec.out.later hbg) eh.out ad.out.2.1).mono ?_
    rintro e w2 ⟨rfl,h1,h2⟩
    rw [<-qa.out] at h1 ⊢
    exact .inl ⟨rfl,h1,(Off.of_below hbg _).trans h2.off⟩
   simp only [Act.put,aA,aD,aE]
   clear oi
   iterate 2 ((refine lI.val (v' := ?_) (by omega) rfl (fun wg hbg => ?_) ?_);(rotate_left);(focus ((have ei:Off (Foot.one mb) wr wg:=hbg.elim (fun h=>Off.of_below h _) (fun h=>h.2));(obtain ⟨lL,cL,fL⟩:=jc.out.off ei (fun h=>ad.out.1 h));(have m0:=(ei.cellA (p:=⟨g1,k * 4,none⟩) ay fw.out).trans lq.out);clear ei hbg;first | (go_simp;done) | (go_simp;with_reducible rfl)));(simp only [Act.put,aA,aD,aE]))
   --@C4
   rintro bp ⟨jj,dt⟩
   have iz:¬ Foot.one mb g1:=fun h=>by have e:g1=mb:=h;omega
   have m10:=(dt.cellA (p:=⟨g1,k * 4,none⟩) ay iz).trans lq.out
   have fz10:∀ o,bp.frozen? ⟨g1,o,none⟩=false:=fun o=>(dt.frozenA (p:=⟨g1,o,none⟩) ay iz).trans (cw.out o)
   have dm:Hid (fS (bp.setCell ⟨g1,k * 4,none⟩ (.int .i64 (tn:Int))) S1 (.slice (some ⟨g1,0,none⟩) npx cpx) (gC (idP rn) x.phis (k+1))):=h! (by
    have h9:=fS.ident (ag.out.off OPhi.nice dt (fun q h1 h2=>by cases h2;have:=ad.out.2.2.2.2.2.2.2.1 _ h1;omega)) (j:=k) (p:=p) (by rw [fW];exact HP.out) (g:=g1) (cap:=cpx) (by rw [eV, <-ct.out]) (y:=(tn:Int)) (by rw [<-eo.out];exact hh.out _)
    rw [show ({ p with id:=(tn:Int) }:PhiD)=idP rn p by unfold idP;rw [eo.out],fX HP.out] at h9
    exact h9)
   have ja:Hid (IMap (bp.setCell ⟨g1,k * 4,none⟩ (.int .i64 (tn:Int))) mb (encT (fN np (pre ++ fH (x.phis.take (k+1)))))):=h! (by
    rw [dr.out]
    exact jj.off (Off.set bp ⟨g1,k * 4,none⟩ _) (fun h=>by have e:mb=g1:=h;omega))
   have dl:Hid (Off (fun q=>q=mb \/ S1 q) w9 (bp.setCell ⟨g1,k * 4,none⟩ (.int .i64 (tn:Int)))):=h! ((bx.out.trans (dt.mono fun q _ hq=>.inl hq)).trans ((Off.set bp ⟨g1,k * 4,none⟩ _).mono fun q _ hq=>.inr (by have e:q=g1:=hq;rw [e];exact ig.out)))
   clear jj dt lq cw ec ag jc og
   go_wp2
   go_roundw
   case rel=>exact ⟨k+1,hlt2,by go_num,dm.out,ja.out,dl.out⟩
   simp [intOf];omega
  obtain rfl:npx=k:=by omega
  have re:Hid (fS wr S1 (.slice apx npx cpx) (x.phis.map (idP rn))):=h! (by have h9:=ag.out;rw [ct.out,gD, <-ct.out] at h9;exact h9)
  have iy:Hid (IMap wr mb (encT (fN np (pre ++ fH x.phis)))):=h! (by have h9:=ec.out;rw [aH (by rw [<-ct.out];exact aB _)] at h9;exact h9)
  have rm:Hid (gL wr S2 (.slice db az bt) x.code):=h! (H2.out.now.off OInstr.nice bx.out (fun q h1 h2=>h2.elim (fun e=>by have:=ad.out.2.2.2.2.2.2.2.2.1 q h1;omega) (fun h=>gj.out.1 q h h1)))
  clear ag ec
  --@C
  generalize wr=wa at *
  obtain ⟨qr,nG,mv⟩:=jc.out
  go_wp2_with fail
  clear qr nG mv
  go_loopw [81] (fun kv wr => ∃ k:Nat,k <= az/\kv = .int .i64 k/\gL wr S2 (.slice db az bt) (gC (idX rn) x.code k)/\IMap wr mb (encT (fN np ((pre ++ fH x.phis) ++ fD (x.code.take k))))/\Off (fun q=>q=mb \/ S2 q) wa wr) (fun kv _=>az - (intOf kv).toNat)
  case atStart=>exact ⟨0,aJ _,rfl,by rw [fR];exact rm.out,by rw [show (pre ++ fH x.phis) ++ fD (x.code.take 0)=pre ++ fH x.phis from bY _];exact iy.out,Off.refl _ _⟩
  obtain ⟨k,hk,rfl,ba,hI,ho⟩:=hrel
  have ag:=h! ba
  have ec:=h! hI
  have ew:=h! ho
  clear ba hI ho
  have hH:Hid (Box wr bl #[.slice apx npx cpx,.slice db az bt,.int .i64 x.term.op,.int .i64 x.term.val,.slice dg bc ci,.int .i64 x.term.n]):=h! (jc.out.off ew.out (fun h=>h.elim ad.out.1 ad.out.2.2.2.2.1))
  have oy:Hid (Box wr b6 #[.map (some mb)]):=h! (og.out.off ew.out (fun h=>h.elim ad.out.2.1 ad.out.2.2.2.2.2.1))
  by_cases hlt2:k < az
  ·obtain ⟨y,hy⟩ : ∃ y,x.code[k]? = some y:=⟨_,aC (by rw [<-cz.out];exact hlt2)⟩
   obtain ⟨g1,hA,aa,ca,Sa,hv,ay,cx,mg,bd, -, -, -, -⟩:=gL.open ag.out (j:=k) (y:=y) (by rw [fW];exact hy)
   rw [eV, <-cz.out] at hv
   injection hv with e1 e2 e3
   subst e1
   subst e3
   have m1:=mg.c1
   have ti:=h! m1
   have cw:=h! bd
   have ig:=h! cx
   have HY:=h! hy
   have HY64:=h! mg.id64
   have tw:g1 < b4:=ad.out.2.2.2.2.2.2.2.2.1 g1 cx
   obtain ⟨lL,cL,fL⟩:=hH.out
   by_cases h0:0 <= y.id
   ·obtain ⟨am,aj,ak⟩:=aAX (pre:=pre ++ fH x.phis) (post:=post) (by have h9:=kL.out;rw [<-List.append_assoc] at h9;exact h9) hy h0
    have mo:=kP.out
    rw [<-List.append_assoc] at mo
    rw [<-mo] at ak
    obtain ⟨T,hT⟩ : ∃ T,T=fN np (pre ++ fH x.phis ++ fD (x.code.take k)):=⟨_,rfl⟩
    rw [<-hT] at am aj ak ec
    obtain ⟨tn,hw⟩ : ∃ tn,tn=T.length:=⟨_,rfl⟩
    rw [<-hw] at aj ak
    have eh:=h! am
    have dr:=h! aj
    have eo:=h! ak
    have qa:=h! hw
    have my:Hid (({ y with id:=(tn:Int) }:InstrD)=idX rn y):=h! (by unfold idX;rw [if_pos h0,ak])
    have tz:decide (0 <= y.id)=true:=by simpa using h0
    have ck:Hid (Calls Tryz.prog 73 #[.int .i64 y.id,.pointer (some ⟨b6,0,none⟩)] wr fun e w'=>e = .returned (.int .i64 (tn:Int))/\IMap w' mb (encT (T ++ [(y.id,(tn:Int))]))/\Turn [mb] wr w'):=h! (by rw [qa.out];exact aDQ oy.out ec.out eh.out ad.out.2.1)
    have iz:¬ Foot.one mb g1:=fun h=>by have e:g1=mb:=h;omega
    have fw:=h! iz
    have oi:∀ (args:Array Value) (w:World),(callFunc 73 args).run Tryz.prog w = .ok (.enter 73 args) w:=qD
    clear h0 hy mg bd cx e2 am aj ak hw hT mo iz
    go_wp2_with (go_at_fn 73;refine ck.out.mono ?_;rintro e cc ⟨rfl,jz,js⟩;have ni:=h! jz;have ep:=h! js.off;have tq:=(ep.out.cellA (p:=⟨g1,k * 4+1,none⟩) ay fw.out).trans ti.out;have qs:∀ o,cc.frozen? ⟨g1,o,none⟩=false:=fun o=>(ep.out.frozenA (p:=⟨g1,o,none⟩) ay fw.out).trans (cw.out o);clear jz js lL cL fL m1)
    clear oi
    have dm:Hid (gL (cc.setCell ⟨g1,k * 4+1,none⟩ (.int .i64 (tn:Int))) S2 (.slice (some ⟨g1,0,none⟩) az bt) (gC (idX rn) x.code (k+1))):=h! (by
     have h9:=gL.ident (ag.out.off OInstr.nice ep.out (fun q h1 h2=>by cases h2;have:=ad.out.2.2.2.2.2.2.2.2.1 _ h1;omega)) (j:=k) (p:=y) (by rw [fW];exact HY.out) (g:=g1) (cap:=bt) (by rw [eV, <-cz.out]) (y:=(tn:Int)) (by rw [<-eo.out];exact hh.out _)
     rw [my.out,fX HY.out] at h9
     exact h9)
    have ja:Hid (IMap (cc.setCell ⟨g1,k * 4+1,none⟩ (.int .i64 (tn:Int))) mb (encT (fN np ((pre ++ fH x.phis) ++ fD (x.code.take (k+1)))))):=h! (by
     rw [dr.out]
     exact ni.out.off (Off.set cc ⟨g1,k * 4+1,none⟩ _) (fun h=>by have e:mb=g1:=h;omega))
    have dl:Hid (Off (fun q=>q=mb \/ S2 q) wa (cc.setCell ⟨g1,k * 4+1,none⟩ (.int .i64 (tn:Int)))):=h! ((ew.out.trans (ep.out.mono fun q _ hq=>.inl hq)).trans ((Off.set cc ⟨g1,k * 4+1,none⟩ _).mono fun q _ hq=>.inr (by have e:q=g1:=hq;rw [e];exact ig.out)))
    clear tq qs
    go_roundw
    case rel=>exact ⟨k+1,hlt2,by go_num,dm.out,ja.out,dl.out⟩
    simp [intOf];omega
   have ij:Hid (idX rn y=y):=h! (by unfold idX;rw [if_neg h0])
   have tz:decide (0 <= y.id)=false:=by simpa using h0
   have dm:Hid (gL wr S2 (.slice (some ⟨g1,0,none⟩) az bt) (gC (idX rn) x.code (k+1))):=h! (by rw [qF HY.out ij.out];exact ag.out)
   have ja:Hid (IMap wr mb (encT (fN np ((pre ++ fH x.phis) ++ fD (x.code.take (k+1)))))):=h! (by rw [tA HY.out h0];exact ec.out)
   clear h0 hy mg bd cx e2
   go_wp2
   go_roundw
   case rel=>exact ⟨k+1,hlt2,by go_num,dm.out,ja.out,ew.out⟩
   simp [intOf];omega
  obtain rfl:az=k:=by omega
  have sh:Hid (gL wr S2 (.slice db az bt) (x.code.map (idX rn))):=h! (by have h9:=ag.out;rw [cz.out,gD, <-cz.out] at h9;exact h9)
  have kw:Hid (IMap wr mb (encT (fN np ((pre ++ fH x.phis) ++ fD x.code)))):=h! (by have h9:=ec.out;rw [aH (by rw [<-cz.out];exact aB _)] at h9;exact h9)
  have ry:Hid (fS wr S1 (.slice apx npx cpx) (x.phis.map (idP rn))):=h! (re.out.off OPhi.nice ew.out (fun q h1 h2=>h2.elim (fun e=>by have:=ad.out.2.2.2.2.2.2.2.1 q h1;omega) (fun h=>gj.out.1 q h1 h)))
  have tp:Hid (eU wr S3 (.slice dg bc ci) x.term.to):=h! ((H3.out.now.off bx.out (fun q h1 h2=>h2.elim (fun e=>by have:=ad.out.2.2.2.2.2.2.2.2.2 q h1;omega) (fun h=>gj.out.2.1 q h h1))).off ew.out (fun q h1 h2=>h2.elim (fun e=>by have:=ad.out.2.2.2.2.2.2.2.2.2 q h1;omega) (fun h=>gj.out.2.2 q h h1)))
  have fv:Hid (OldK w1 wr):=h! ((ae.out.now.off bx.out (fun q h=>h.elim (fun e=>by rw [e];exact me.out.1) (fun h=>(ed.out q (cF.out.1 q h)).1)) me.out.2).off ew.out (fun q h=>h.elim (fun e=>by rw [e];exact me.out.1) (fun h=>(ed.out q (cF.out.2.1 q h)).1)) (bE me.out.2 bx.out.size))
  clear ag ec iy re rm
  --@D
  generalize wr=wb at *
  obtain ⟨jd,kc,it⟩:=hH.out
  go_wp2_with fail
  clear jd kc it
  have hz9b:w9.heap.size <= wb.heap.size:=bE bx.out.size ew.out.size
  have hz9:bl < w9.heap.size:=BL.out.lt
  go_loopw [107] (fun kv wr => ∃ k:Nat,k <= bc/\kv = .int .i64 k/\eU wr S3 (.slice dg bc ci) (gC (plO O) x.term.to k)/\Off S3 wb wr) (fun kv _=>bc - (intOf kv).toNat)
  case atStart=>exact ⟨0,aJ _,rfl,by rw [fR];exact tp.out,Off.refl _ _⟩
  obtain ⟨k,hk,rfl,ba,ho⟩:=hrel
  have ag:=h! ba
  have fs:=h! ho
  clear ba ho
  have ah:Hid (OldK w1 wr):=h! (fv.out.off fs.out (fun q h=>(ed.out q (cF.out.2.2 q h)).1) (by omega))
  have bz:Hid (Box wr bl #[.slice apx npx cpx,.slice db az bt,.int .i64 x.term.op,.int .i64 x.term.val,.slice dg bc ci,.int .i64 x.term.n]):=h! (hH.out.off fs.out ad.out.2.2.2.2.2.2.1)
  have dk:=h! (ah.out.box ls.out)
  by_cases hlt2:k < bc
  ·obtain ⟨q0,fg⟩ : ∃ y,x.term.to[k]? = some y:=⟨_,aC (by rw [<-dc.out];exact hlt2)⟩
   have kh:=tv.out q0 (aG fg)
   obtain ⟨qn,rfl⟩ : ∃ qn:Nat,q0=qn:=⟨q0.toNat,by omega⟩
   have pk:qn < nb:=by have:=ee.out;omega
   have ke:((qn:Int).toNat) ∈ O:=sc.out _ (by have:=ee.out;omega)
   obtain ⟨g1,hA,hv,cx,ay,ai,bd, -⟩:=ag.out.addr (i:=k) (x:=(qn:Int)) (by rw [fW];exact fg)
   rw [eV, <-dc.out] at hv
   injection hv with e1 e2 e3
   subst e1
   subst e3
   have dy:=(ah.out.cell (o:=lo+qn) rf).trans (sn.out (qn:Int) (by simpa using pk) ke)
   have dx:=h! dy
   have dw:=h! ai
   have cw:=h! bd
   have ig:=h! cx
   have lm:=h! fg
   have hn:=h! (fq.out (qn:Int) ke)
   have ev:lb < wr.heap.size:=by have:=fs.out.size;omega
   have an:Hid (gA wr wr):=h! (Below.refl _ _)
   clear bd cx e2 fg kh dy
   obtain ⟨cm,cl,cq⟩:=bz.out
   obtain ⟨di,dh,dd⟩:=dk.out
   go_upto_region 31 with (fail)
   clear ai
   refine wp_region_grow 12 (fun _=>.plain) (by kernel_rfl) (by kernel_rfl) ?_ (fun ν => ?_)
   ·exact fun _=>trivial
   simp only [aO,aS,aP,aU]
   iterate 12 (refine Grow.val (v := ?_) rfl rfl (fun wg hbg hdg => ?_) ?_;rotate_left;(focus ((obtain ⟨sf,sg,so⟩:=bz.out.later hbg);(obtain ⟨lg1,cg1,fg1⟩:=dk.out.later hbg);(have zp:=(hbg.cell (p:=⟨lb,lo+qn,none⟩) ev).trans dx.out);clear hbg hdg;first | (go_simp;done) | (go_simp;with_reducible rfl)));simp only [Act.put,aA,aD,aE])
   intro wg hb hf hM
   clear hM
   clear cm cl cq di dh dd
   replace bz:=h! (bz.out.later hb)
   replace dk:=h! (dk.out.later hb)
   replace an:=h! (an.out.later hb)
   obtain ⟨cm,cl,cq⟩:=bz.out
   obtain ⟨di,dh,dd⟩:=dk.out
   clear hf
   have hG:=(an.out.cell (p:=⟨g1,k,none⟩) ay).trans dw.out
   have gk:∀ o,wg.frozen? ⟨g1,o,none⟩=false:=fun o=>(an.out.frozen (p:=⟨g1,o,none⟩) ay).trans (cw.out o)
   have dm:Hid (eU (wg.setCell ⟨g1,k,none⟩ (.int .i64 (plO O (qn:Int)))) S3 (.slice (some ⟨g1,0,none⟩) bc ci) (gC (plO O) x.term.to (k+1))):=h! (by
    have h9:=eU.set (ag.out.off (Off.of_below an.out Foot.none) (fun _ _ h=>h)) (g:=g1) (cap:=ci) (by rw [eV, <-dc.out]) (i:=k) (by rw [eV, <-dc.out];exact hlt2) hn.out
    rw [fX lm.out] at h9
    exact h9)
   have dl:Hid (Off S3 wb (wg.setCell ⟨g1,k,none⟩ (.int .i64 (plO O (qn:Int))))):=h! ((fs.out.trans (Off.of_below an.out _)).trans ((Off.set wg ⟨g1,k,none⟩ _).mono fun z _ hz=>by have h9:z=g1:=hz;rw [h9];exact ig.out))
   clear an ag dw
   go_wp2
   go_roundw
   case rel=>exact ⟨k+1,hlt2,by go_num,dm.out,dl.out⟩
   simp [intOf];omega
  obtain rfl:bc=k:=by omega
  have sk:Hid (eU wr S3 (.slice dg bc ci) (x.term.to.map (plO O))):=h! (by have h9:=ag.out;rw [dc.out,gD, <-dc.out] at h9;exact h9)
  clear ag
  --@E
  generalize wr=wc at *
  have da:Hid (Off (fun q=>q=mb \/ F b q) w9 wc):=h! (((bx.out.mono fun q _ h=>h.imp id (cF.out.1 q)).trans (ew.out.mono fun q _ h=>h.imp id (cF.out.2.1 q))).trans (fs.out.mono fun q _ h=>.inr (cF.out.2.2 q h)))
  have sb:Hid (OBlock wc (F b) [.slice apx npx cpx,.slice db az bt,.int .i64 x.term.op,.int .i64 x.term.val,.slice dg bc ci,.int .i64 x.term.n] (idB rn O x)):=h! (by
   rw [<-te.out,aF0]
   refine qh.out wc _ _ _ (ry.out.off OPhi.nice fs.out (fun q h1 h2=>gj.out.2.1 q h1 h2)) (sh.out.off OInstr.nice fs.out (fun q h1 h2=>gj.out.2.2 q h1 h2)) sk.out ?_
   have:=da.out.size
   have:=nc.out
   omega)
  have hD:Hid (Holds [] w1.heap.size wc (F b) (fun W=>OBlock W (F b) [.slice apx npx cpx,.slice db az bt,.int .i64 x.term.op,.int .i64 x.term.val,.slice dg bc ci,.int .i64 x.term.n] (idB rn O x))):=h! (iN OBlock.nice sb.out (fun k hk=>(ed.out k hk).1))
  have pd:Hid (∀ q,(q=mb \/ F b q) -> ¬ SO q/\q ≠ b4+1/\q ≠ bl/\w1.heap.size <= q):=h! (fun q hq=>by
   rcases hq with rfl | hq
   ·exact ⟨fun h=>gl.out.free _ h (by simp),by omega,by omega,by omega⟩
   have h1:=ed.out q hq
   refine ⟨fun h => ?_,by omega,by omega,h1.1⟩
   rcases ia.out q h with ⟨d,hd,h⟩ | h
   ·exact ty.out q hq (.inr (.inr ⟨d,hd,h⟩))
   omega)
  have ic:=h! (eT _ _ _ lp.out)
  have nw:Hid (((O.take i).map fun b=>idB rn O (jO f b)).length=i):=h! (by rw [aW,aV];have:=dl.out;omega)
  have ph:Hid (Box wc (b4+1) #[.slice bf np bh,.int .i64 ar,.int .i64 ce,.slice ao i co]):=h! (B5.out.off da.out (fun h=>(pd.out _ h).2.1 rfl))
  have jb:Hid (Holds [] w1.heap.size wc SO (fun W=>fA W SO (.slice ao i co) ((O.take i).map fun b=>idB rn O (jO f b)))):=h! ((gl.out.off da.out (fun q h1 h2=>(pd.out q h2).1 h1)).less (by simp))
  have vj:Hid ((F b).off SO):=h! (fun q h1 h2=>(pd.out q (.inr h1)).1 h2)
  have sj:Hid (IMap wc mb (encT (fN np (idsO f (O.take (i+1)))))):=h! (by
   rw [rA lp.out,oj.out,pD, <-qc.out, <-List.append_assoc]
   exact kw.out.off fs.out (fun h=>by have:=ad.out.2.2.2.2.2.2.2.2.2 _ h;omega))
  have jt:Hid (Off (fun k=>k=mb \/ k=b4+1 \/ ∃ d,d ∈ O.take (i+1)/\F d k) w7 wc):=h! ((Off.mono cr.out fun q _ h=>by
   rcases h with h | h | ⟨d,hd,h⟩
   ·exact .inl h
   ·exact .inr (.inl h)
   ·exact .inr (.inr ⟨d,by rw [ic.out];simp [hd],h⟩)).trans (da.out.mono fun q _ h=>by
   rcases h with h | h
   ·exact .inl h
   exact .inr (.inr ⟨b,by rw [ic.out];simp,h⟩)))
  clear ry sh sk sb fv kw gl
  obtain ⟨ng,qf,pt⟩:=ph.out
  obtain ⟨cm,cl,cq⟩:=bz.out
  have hlc1:w1.heap.size <= wc.heap.size:=by have:=da.out.size;have:=Off.size cr.out;omega
  have kx:∀ b ∈ ([] : List Nat),b < w1.heap.size:=by intro b hb;cases hb
  have sd:∀ o:Obj,w1.heap.size <= (wc.alloc o).heap.size:=fun o=>by rw [World.size_alloc];omega
  have ld:i+1 <= 17592186044416:=by omega
  have ik:(i+1) * 96 <= 140737488355328:=by omega
  have sm:∀ u ∈ ([.slice apx npx cpx,.slice db az bt,.int .i64 x.term.op,.int .i64 x.term.val,.slice dg bc ci,.int .i64 x.term.n] : List Value),u.oneCell' = true:=by simp [Value.oneCell']
  have qq:Hid (¬ SO (b4+1)):=h! (fun h=>by
   rcases ia.out _ h with ⟨d,hd,h⟩ | h
   ·have:=br.out.1 _ (hs.out d (cU hd) _ h);omega
   omega)
  go_upto_region 34 with (at_builtin;go_loud (refine iW OBlock.nice rfl _ _ 23 63 rfl rE rfl rfl nw.out (jb.out.alloc _) (Box.new _ _ _) rfl (hD.out.alloc _).now vj.out hD.out.base kx (sd _) sm ld ik ?_);intro v2 gb SN q1 q2 q3 q4;obtain ⟨g2,c2,rfl⟩:=q4;have gx:=h! ((ph.out.alloc _).off q3 qq.out);have rq:=h! q1;have se:=h! q2;have nt:=h! q3;clear q1 q2 q3;obtain ⟨l5,c5,f5⟩:=gx.out)
  clear l5 c5 f5 kx sd ld ik sm
  clear ng qf pt cm cl cq
  have ez:Hid (Off (Foot.one (b4+1)) gb (gb.setCell ⟨b4+1,3,none⟩ (.slice (some ⟨g2,0,none⟩) (i+1) c2))):=h! (Off.set gb ⟨b4+1,3,none⟩ _)
  have ve:Hid (Box (gb.setCell ⟨b4+1,3,none⟩ (.slice (some ⟨g2,0,none⟩) (i+1) c2)) (b4+1) #[.slice bf np bh,.int .i64 ar,.int .i64 ce,.slice (some ⟨g2,0,none⟩) (i+1) c2]):=h! (by simpa using gx.out.set 3 (.slice (some ⟨g2,0,none⟩) (i+1) c2))
  generalize gb.setCell ⟨b4+1,3,none⟩ (.slice (some ⟨g2,0,none⟩) (i+1) c2)=en at *
  have lg:Hid (∀ q,SN q -> (∃ d,d ∈ O.take (i+1)/\F d q) \/ w7.heap.size <= q):=h! (fun q hq=>by
   rcases se.out q hq with h | h | h
   ·exact (ia.out q h).imp (fun ⟨d,hd,h⟩=>⟨d,by rw [ic.out];simp [hd],h⟩) id
   ·exact .inl ⟨b,by rw [ic.out];simp,h⟩
   right
   rw [World.size_alloc] at h
   have:=da.out.size
   have:=Off.size cr.out
   omega)
  have ip:Hid (∀ q,SN q -> q ∉ [w.heap.size,w.heap.size+1,b4,b4+1,mb,b6]):=h! (fun q hq hm=>by
   have h8:w7.heap.size <= q \/ (w1.heap.size <= q/\q < b4):=by
    rcases lg.out q hq with ⟨d,hd,h⟩ | h
    ·exact .inr (br.out.1 _ (hs.out d (cU hd) _ h))
    exact .inl h
   simp at hm
   omega)
  have nh:Hid (Holds [w.heap.size,w.heap.size+1,b4,b4+1,mb,b6] w1.heap.size en SN (fun W=>fA W SN (.slice (some ⟨g2,0,none⟩) (i+1) c2) ((O.take (i+1)).map fun b=>idB rn O (jO f b)))):=h! (by
   have h9:=rq.out.off ez.out (fun q h1 h2=>ip.out q h1 (by cases h2;simp))
   rw [ic.out,aZ,cY,eE,oj.out]
   exact ⟨h9.now,h9.keep,h9.lt,h9.base,ip.out⟩)
  have tb:Hid (IMap en mb (encT (fN np (idsO f (O.take (i+1)))))):=h! (((sj.out.alloc _).off nt.out (fun h=>by
   rcases ia.out _ h with ⟨d,hd,h⟩ | h
   ·have:=br.out.1 _ (hs.out d (cU hd) _ h);omega
   omega)).off ez.out (fun h=>by have e:mb=b4+1:=h;omega))
  have py:Hid (OffF (fun k=>k=mb \/ k=b4+1 \/ ∃ d,d ∈ O.take (i+1)/\F d k) w7 en):=h! (Off.grow (Off.grow (Off.trans jt.out (Off.alloc _ _ _)) nt.out (fun q hq=>by
   rcases ia.out q hq with ⟨d,hd,h⟩ | h
   ·exact .inl (.inr (.inr ⟨d,by rw [ic.out];simp [hd],h⟩))
   exact .inr h)) ez.out (fun q hq=>.inl (.inr (.inl hq))))
  clear rq se nt ez gx sj jt jb hD ph bz
  go_wp2
  go_roundw
  case rel=>exact ⟨i+1,SN,some ⟨g2,0,none⟩,c2,gq,by go_num,py.out,tb.out,ve.out,nh.out,lg.out⟩
  simp [intOf];omega
 obtain rfl:no=i:=by omega
 --@F
 have hL:O.take no=O:=aH (by rw [<-dl.out];exact aB _)
 have iy:Hid (IMap w8 mb (encT (fN np (idsO f O)))):=h! (by have h9:=HI.out;rw [hL] at h9;exact h9)
 obtain ⟨xs0,et⟩ : ∃ xs0,xs0=O.map fun b=>idB rn O (jO f b):=⟨_,rfl⟩
 have cj:Hid (Holds [w.heap.size,w.heap.size+1,b4,b4+1,mb,b6] w1.heap.size w8 SO (fun W=>fA W SO (.slice ao no co) xs0)):=h! (by have h9:=gl.out;rw [hL, <-et] at h9;exact h9)
 have fp:Hid (no=xs0.length):=h! (by rw [et,aW,dl.out])
 have ox:=h! et
 have HQ:Hid (Holds [b4+1,b4,w.heap.size,w.heap.size+1] w1.heap.size w8 SQ (fun W=>eU W SQ (.slice bf np bh) f.params)):=h! ((td.out.off cr.out (fun k h1 h2=>(hR.out k h2).2.2 h1)).less (by simp))
 have mr:Hid (SQ.off SO):=h! (fun k h1 h2=>by
  rcases ia.out k h2 with ⟨d,hd,h⟩ | h
  ·exact br.out.2.1 k h1 (hs.out d (cU hd) k h)
  have:=br.out.2.2 k h1;omega)
 clear HI gl hL et gq hi
 have ck:Hid (Calls Tryz.prog 49 #[.pointer (some ⟨b4+1,0,none⟩),.func (.func 74) #[] #[.pointer (some ⟨b6,0,none⟩)]] w8 (MapR w8 SO (.slice ao no co) xs0 rn)):=h! (by
  have h1:=cj.out.now
  have h2:=B5.out.at 3 (v:=.slice ao no co) rfl
  have h3:=B5.out.1
  rw [fp.out] at h1 h2 ⊢
  refine mapC h2 h3 (fun hk=>cj.out.free _ hk (by simp)) h1 xU (fun v _=>hh.out v) (fun W v hv ho => ?_)
  rw [nz.out]
  exact aFY (B6.out.off ho (fun hk=>cj.out.free _ hk (by simp))) (iy.out.off ho (fun hk=>cj.out.free _ hk (by simp))))
 go_wp2_with fail
 --@F1
 refine ck.out.mono ?_
 rintro e w9 ⟨rfl,ho,hW⟩
 obtain ⟨xs1,ff⟩ : ∃ xs1,xs1=xs0.map (mapB rn):=⟨_,rfl⟩
 rw [<-ff] at hW
 have lh:Hid (xs1=O.map fun b=>mapB rn (idB rn O (jO f b))):=h! (by rw [ff,ox.out,cK];rfl)
 have ey:Hid (no=xs1.length):=h! (by rw [ff,aW];exact fp.out)
 have bj:=h! cj.out.base
 have ea:=h! cj.out.free
 have lp:=h! hW
 replace HW:=h! (HW.out.trans (ho.below (base:=w.heap.size) HW.out.size (fun k _ hk=>by have:=bj.out k hk;omega)))
 replace B2:=h! (B2.out.off ho (fun hk=>ea.out _ hk (by simp)))
 replace B5:=h! (B5.out.off ho (fun hk=>ea.out _ hk (by simp)))
 replace HQ:=h! (HQ.out.off ho mr.out)
 have oe:w1.heap.size <= w8.heap.size:=by omega
 have kr:Hid (OldK w1 w9):=h! (ae.out.now.off ho (fun k hk=>bj.out k hk) oe)
 have pb:w1.heap.size <= w9.heap.size:=by have:=ho.size;omega
 clear ho hW ff ck cj ae iy
 obtain ⟨aq,be,bk⟩:=B2.out
 obtain ⟨ax,bn,bo⟩:=B5.out
 go_wp2_with fail
 clear aq be bk ax bn bo
 --@F2
 go_loopw [137] (fun iv wr => ∃ i:Nat,i <= no/\iv = .int .i64 i/\fA wr SO (.slice ao no co) (gC (tO O) xs1 i)/\Off SO w9 wr) (fun iv _=>no - (intOf iv).toNat)
 case atStart=>exact ⟨0,aJ _,rfl,by rw [fR];exact lp.out,Off.refl _ _⟩
 obtain ⟨i,hi,rfl,ba,ho⟩:=hrel
 have ag:=h! ba
 have he:=h! ho
 clear ba ho
 --@FA
 by_cases hlt2:i < no
 ·obtain ⟨x1,md⟩ : ∃ x1,xs1[i]? = some x1:=⟨_,aC (by rw [<-ey.out];exact hlt2)⟩
  --@FD
  obtain ⟨g1,hA,gw,ln,ly,fb,mh,lx,S1,S2,hv,sz,cx,gm,pq,lS,pf,d1,d2,ks,n1,n2,bi⟩:=fA.opened ag.out (j:=i) (x:=x1) (by rw [fW];exact md)
  rw [eV, <-ey.out] at hv
  injection hv with e1 e2 e3
  subst e1
  subst e3
  have k0:=gm.c0
  have k1:=gm.c1
  have k2:=gm.c2
  have k3:=gm.c3
  have k4:=gm.c4
  have k5:=gm.c5
  --@FB
  obtain ⟨cn,fm⟩ : ∃ n,n=x1.phis.length:=⟨_,rfl⟩
  obtain ⟨lr,ie⟩ : ∃ n,n=x1.code.length:=⟨_,rfl⟩
  obtain ⟨mc,ir⟩ : ∃ n,n=x1.term.to.length:=⟨_,rfl⟩
  have hpb:cn <= 17592186044416:=by obtain ⟨cs,G,F,hp⟩:=lS;rw [fm];exact hp.row.big
  rw [<-fm] at k0 lS bi
  rw [<-ie] at k1 pf bi
  rw [<-ir] at k4
  have es:=h! fm
  have tt:=h! md
  have nq:=h! lS
  have rk:=h! pf
  have gj:=h! ks
  have rh:=h! bi
  have kf:=h! d1
  --@FC
  have tm:Hid (∀ p ∈ x1.phis,p.src.Nodup/\p.src.length=p.vals.length /\ ∀ q ∈ p.src,0 <= q/\q.toNat ∈ O/\q.toNat < nb):=h! (fun p hp=>by
   rw [ee.out]
   exact aEJ (g:=rn) HF.out (fun d hd=>HO.out.facts.2.2.1 d hd) sc.out (by rw [<-lh.out];exact aG md) hp)
  clear md lS pf ks bi d1 d2 n1 n2 gm cx e2 fm ie ir pq
  --@F3
  go_upto_region 39 with (fail)
  clear k0 k1 k2 k3 k4 k5
  have km:Hid (Below wr.heap.size wr (wr.alloc (.cells #[.slice gw cn fb,.slice ln lr mh,.int .i64 x1.term.op,.int .i64 x1.term.val,.slice ly mc lx,.int .i64 x1.term.n] 63))):=h! ((Below.refl _ _).alloc (aB _) _)
  have BM:=h! (Box.new wr #[.slice gw cn fb,.slice ln lr mh,.int .i64 x1.term.op,.int .i64 x1.term.val,.slice ly mc lx,.int .i64 x1.term.n] 63)
  obtain ⟨bm,ms⟩ : ∃ bm,bm=wr.heap.size:=⟨_,rfl⟩
  have vf:Hid (∀ q,S1 q -> q < bm):=h! (fun q hq=>by rw [ms];exact nq.out.lt q hq)
  rw [<-ms] at BM ⊢
  generalize wr.alloc (.cells #[.slice gw cn fb,.slice ln lr mh,.int .i64 x1.term.op,.int .i64 x1.term.val,.slice ly mc lx,.int .i64 x1.term.n] 63)=bp at *
  have dq:Hid (Off SO w9 bp):=h! (he.out.trans (Off.of_below km.out _))
  have ol:Hid (fS bp S1 (.slice gw cn fb) x1.phis):=h! (nq.out.off OPhi.nice (Off.of_below km.out Foot.none) (fun _ _ h=>h))
  have jx:Hid (∀ (W' : World) (ps:List PhiD),Off S1 bp W' -> fS W' S1 (.slice gw cn fb) ps -> fA W' SO (.slice (some ⟨g1,0,none⟩) no co) ((gC (tO O) xs1 i).set i { x1 with phis:=ps })):=h! (fun W' ps h3 h4=>rh.out W' ps x1.code ((Off.of_below km.out _).trans (h3.mono fun q _ h=>.inl h)) h4 (rk.out.off OInstr.nice ((Off.of_below km.out _).trans h3) gj.out.symm))
  have hK:Hid (OldK w1 bp):=h! (kr.out.off dq.out (fun k hk=>bj.out k hk) pb)
  have hz10:w9.heap.size <= bp.heap.size:=dq.out.size
  have vg:bm < bp.heap.size:=BM.out.lt
  clear ms km nq rk rh ag he
  obtain ⟨lM,cM,fM⟩:=BM.out
  go_wp2_with fail
  clear lM cM fM
  --@F4
  go_loopw [144] (fun kv wr => ∃ k:Nat,k <= cn/\kv = .int .i64 k/\fS wr S1 (.slice gw cn fb) (gC (wF O) x1.phis k)/\Off S1 bp wr) (fun kv _=>cn - (intOf kv).toNat)
  case atStart=>exact ⟨0,aJ _,rfl,by rw [fR];exact ol.out,Off.refl _ _⟩
  obtain ⟨k,hk,rfl,ba,ho⟩:=hrel
  have ag:=h! ba
  have bx:=h! ho
  clear ba ho
  by_cases hlt3:k < cn
  ·obtain ⟨p,hp⟩ : ∃ p,x1.phis[k]? = some p:=⟨_,aC (by rw [<-es.out];exact hlt3)⟩
   --@FE
   obtain ⟨g2,cap2,af,av,cf,cv,Sf,Sv,hv,jn,pg,hZ,qb,ll,pw,rr,i1,i2,n1,n2,al⟩:=fS.both ag.out (j:=k) (p:=p) (by rw [fW];exact hp)
   rw [eV, <-es.out] at hv
   injection hv with e1 e2 e3
   subst e1
   subst e3
   obtain ⟨kx,ld,ik⟩:=tm.out p (aG hp)
   obtain ⟨nf,kz⟩ : ∃ n,n=p.src.length:=⟨_,rfl⟩
   have qz:nf=p.vals.length:=by rw [kz,ld]
   have m2:=hZ.c2
   have m3:=hZ.c3
   have hfb:nf <= 17592186044416:=by rw [kz];exact ll.1.big
   rw [<-kz] at m2 ll al
   rw [<-qz] at m3 pw al
   have ga:=h! kz
   have fj:=h! qz
   have HP:=h! hp
   have tr:=h! kx
   have nj:=h! ik
   have st:=h! m2
   have rp:=h! m3
   have px:=h! ll
   have mz:=h! pw
   have ml:=h! rr
   have dp:=h! (And.intro i1 i2)
   have eb:=h! (And.intro n1 n2)
   have oz:=h! al
   have ah:Hid (OldK w1 wr):=h! (hK.out.off bx.out (fun q hq=>bj.out q (kf.out q hq)) (by omega))
   have rt:Hid (Box wr bm #[.slice (some ⟨g2,0,none⟩) cn fb,.slice ln lr mh,.int .i64 x1.term.op,.int .i64 x1.term.val,.slice ly mc lx,.int .i64 x1.term.n]):=h! (BM.out.off bx.out (fun h=>by have:=vf.out _ h;omega))
   have hz10r:bp.heap.size <= wr.heap.size:=bx.out.size
   clear hp kx ld ik kz qz m2 m3 ll pw rr i1 i2 n1 n2 al hZ qb e2 pg
   have qe:=@run_makeMap Tryz.prog
   obtain ⟨lM,cM,fM⟩:=rt.out
   --@F5
   go_upto_region 44 with (fail)
   clear qe lM cM fM
   have HI:=h! (IMap.new wr)
   have ib:Hid (Below wr.heap.size wr (wr.alloc (.map #[] 0))):=h! ((Below.refl _ _).alloc (aB _) _)
   obtain ⟨pm,hP⟩ : ∃ pm,pm=wr.heap.size:=⟨_,rfl⟩
   rw [<-hP] at HI
   simp only [<-hP]
   have hgpm:g2 < pm:=by omega
   have il:∀ q,Sf q -> q < pm:=fun q hq=>by rw [hP];exact px.out.lt q hq
   have kd:∀ q,Sv q -> q < pm:=fun q hq=>by rw [hP];exact mz.out.lt q hq
   have hC:=h! il
   have hF:=h! kd
   have hpw:bp.heap.size <= pm:=by omega
   have na:=h! hP
   clear hP il kd
   generalize wr.alloc (.map #[] 0)=cc at *
   have hlp:pm < cc.heap.size:=HI.out.lt
   have kg:Hid (eU cc Sf (.slice af nf cf) p.src):=h! (px.out.off (Off.of_below ib.out Foot.none) (fun _ _ h=>h))
   have io:Hid (eU cc Sv (.slice av nf cv) p.vals):=h! (mz.out.off (Off.of_below ib.out Foot.none) (fun _ _ h=>h))
   have m2:=(ib.out.cell (p:=⟨g2,k * 4+2,none⟩) jn).trans st.out
   have m3:=(ib.out.cell (p:=⟨g2,k * 4+3,none⟩) jn).trans rp.out
   have gz:Hid (OldK w1 cc):=h! (ah.out.off (Off.of_below ib.out Foot.none) (fun _ h=>h.elim) (by omega))
   have qm:=h! m2
   have mn:=h! m3
   clear st rp px mz ah rt ag
   go_wp2_with fail
   clear m2 m3
   --@F6
   go_loopw [157] (fun jv wr => ∃ j:Nat,j <= nf/\jv = .int .i64 j/\eU wr Sf (.slice af nf cf) (gC (plO O) p.src j)/\IMap wr pm (encT ((mO O p).take j))/\Off (fun q=>q=pm \/ Sf q) cc wr) (fun jv _=>nf - (intOf jv).toNat)
   case atStart=>exact ⟨0,aJ _,rfl,by rw [fR];exact kg.out,HI.out,Off.refl _ _⟩
   obtain ⟨j,hj,rfl,ba,hI,ho⟩:=hrel
   have ag:=h! ba
   have lk:=h! hI
   have gh:=h! ho
   clear ba hI ho
   have hlr:cc.heap.size <= wr.heap.size:=gh.out.size
   have ah:Hid (OldK w1 wr):=h! (gz.out.off gh.out (fun q h=>h.elim (fun e=>by omega) (fun h=>bj.out q (kf.out q (dp.out.1 q h)))) (by omega))
   have ef:Hid (eU wr Sv (.slice av nf cv) p.vals):=h! (io.out.off gh.out (fun q h1 h2=>h2.elim (fun e=>by have:=hF.out q h1;omega) (fun h=>ml.out q h h1)))
   have fw:Hid (¬ (g2=pm \/ Sf g2)):=h! (fun h=>h.elim (fun e=>by omega) eb.out.1)
   have fd:g2 < wr.heap.size:=by omega
   have m2:=(gh.out.cellA (p:=⟨g2,k * 4+2,none⟩) (by show g2 < _;omega) fw.out).trans qm.out
   have m3:=(gh.out.cellA (p:=⟨g2,k * 4+3,none⟩) (by show g2 < _;omega) fw.out).trans mn.out
   have fi:=h! m2
   have cB:=h! m3
   by_cases hlt4:j < nf
   ·obtain ⟨q0,fg⟩ : ∃ y,p.src[j]? = some y:=⟨_,aC (by rw [<-ga.out];exact hlt4)⟩
    obtain ⟨v0,qx⟩ : ∃ y,p.vals[j]? = some y:=⟨_,aC (by rw [<-fj.out];exact hlt4)⟩
    have kh:=nj.out q0 (aG fg)
    obtain ⟨qn,rfl⟩ : ∃ qn:Nat,q0=qn:=⟨q0.toNat,by omega⟩
    have pk:qn < nb:=by have:=kh.2.2;omega
    have ke:=kh.2.1
    obtain ⟨gf,nL,hv,bb,gp,ai,kp, -⟩:=ag.out.addr (i:=j) (x:=(qn:Int)) (by rw [fW];exact fg)
    rw [eV, <-ga.out] at hv
    injection hv with e1 e2 e3
    subst e1
    subst e3
    obtain ⟨gv,qv,hv,cd,fl,bs, -, -⟩:=ef.out.addr (i:=j) (x:=v0) qx
    rw [<-fj.out] at hv
    injection hv with e4 e5 e6
    subst e4
    subst e6
    have dy:=(ah.out.cell (o:=lo+qn) rf).trans (sn.out (qn:Int) (by simpa using pk) ke)
    have dx:=h! dy
    have dw:=h! ai
    have fc:=h! bs
    have po:=h! kp
    have qo:=h! bb
    have ii:=h! cd
    have lm:=h! fg
    have tj:=h! qx
    have hn:=h! (fq.out (qn:Int) ke)
    have ev:lb < wr.heap.size:=by omega
    have an:Hid (gA wr wr):=h! (Below.refl _ _)
    have dk:=h! (ah.out.box ls.out)
    have mx:gv ≠ gf:=fun e=>ml.out gf bb (e ▸ cd)
    have hgfp:gf < pm:=hC.out gf bb
    have hgvp:gv < pm:=hF.out gv cd
    have pl:g2 ≠ gf:=fun e=>eb.out.1 (by rw [e];exact bb)
    have om:lb ≠ gf:=fun e=>by have:=bj.out gf (kf.out gf (dp.out.1 gf bb));omega
    have pj:bg ≠ gf:=fun e=>by have:=bj.out gf (kf.out gf (dp.out.1 gf bb));omega
    clear kp bb cd e2 e5 fg qx kh dy m2 m3 bs
    obtain ⟨di,dh,dd⟩:=dk.out
    go_upto_region 47 with (fail)
    clear ai
    refine wp_region_grow 13 (fun _=>.plain) (by kernel_rfl) (by kernel_rfl) ?_ (fun ν => ?_)
    ·exact fun _=>trivial
    simp only [aO,aS,aP,aU]
    iterate 13 (refine Grow.val (v := ?_) rfl rfl (fun wg hbg hdg => ?_) ?_;rotate_left;(focus ((obtain ⟨sf,sg,so⟩:=dk.out.later hbg);(have zp:=(hbg.cell (p:=⟨lb,lo+qn,none⟩) ev).trans dx.out;have z2:=(hbg.cell (p:=⟨g2,k * 4+2,none⟩) fd).trans fi.out);clear hbg hdg;first | (go_simp;done) | (go_simp;with_reducible rfl)));simp only [Act.put,aA,aD,aE])
    intro wg hb hf hM
    clear hM
    clear di dh dd
    replace dk:=h! (dk.out.later hb)
    replace an:=h! (an.out.later hb)
    obtain ⟨di,dh,dd⟩:=dk.out
    clear hf
    have hG:=(an.out.cell (p:=⟨gf,j,none⟩) gp).trans dw.out
    have gk:∀ o,wg.frozen? ⟨gf,o,none⟩=false:=fun o=>(an.out.frozen (p:=⟨gf,o,none⟩) gp).trans (po.out o)
    go_upto_region 48 with (fail)
    clear hG gk
    clear di dh dd
    have dm:Hid (eU (wg.setCell ⟨gf,j,none⟩ (.int .i64 (plO O (qn:Int)))) Sf (.slice (some ⟨gf,0,none⟩) nf cf) (gC (plO O) p.src (j+1))):=h! (by
     have h9:=eU.set (ag.out.off (Off.of_below an.out Foot.none) (fun _ _ h=>h)) (g:=gf) (cap:=cf) (by rw [eV, <-ga.out]) (i:=j) (by rw [eV, <-ga.out];exact hlt4) hn.out
     rw [fX lm.out] at h9
     exact h9)
    have gg:Hid (Off (Foot.one gf) wr (wg.setCell ⟨gf,j,none⟩ (.int .i64 (plO O (qn:Int))))):=h! ((Off.of_below an.out _).trans (Off.set wg ⟨gf,j,none⟩ _))
    generalize wg.setCell ⟨gf,j,none⟩ (.int .i64 (plO O (qn:Int)))=ek at *
    clear an ag dw
    have je:Hid (Box ek bg #[.slice ap np cp,.int .i64 ar,.int .i64 ce,.slice ab nb cb,pv,.slice (some ⟨ob,oo,none⟩) no oc,.slice (some ⟨lb,lo,none⟩) nb lc]):=h! ((ah.out.box ls.out).off gg.out pj)
    have qg:Hid (ek.cell? ⟨lb,lo+qn,none⟩=some (.int .i64 (plO O (qn:Int)))):=h! ((gg.out.cellA (p:=⟨lb,lo+qn,none⟩) ev om).trans dx.out)
    have gy:=h! ((gg.out.cellA (p:=⟨g2,k * 4+3,none⟩) fd pl).trans cB.out)
    have vm:=h! ((gg.out.cellA (p:=⟨gv,j,none⟩) fl mx).trans fc.out)
    have cF:Hid (IMap ek pm (encT ((mO O p).take j))):=h! (lk.out.off gg.out (fun h=>by have e:pm=gf:=h;omega))
    have jo:Hid (Off (fun q=>q=pm \/ Sf q) cc ek):=h! (gh.out.trans (gg.out.mono fun q _ hq=>.inr (by have e:q=gf:=hq;rw [e];exact qo.out)))
    have hs12:wr.heap.size <= ek.heap.size:=gg.out.size
    have kn:lb < ek.heap.size:=by omega
    have ka:g2 < ek.heap.size:=by omega
    have ky:gv < ek.heap.size:=by omega
    clear dk dx fi cB fc lk gh gg ah ef
    have gn:Hid (Holds [] 0 ek Sf (fun W=>eU W Sf (.slice (some ⟨gf,0,none⟩) nf cf) (gC (plO O) p.src (j+1)))):=h! (gH dm.out (fun _ _=>aJ _))
    have eg:Hid (OffF (fun q=>q=pm \/ Sf q) cc ek):=jo
    clear dm jo
    obtain ⟨gr,gB,hl⟩:=je.out
    refine wp_region_grow 15 (fun _=>.plain) (by kernel_rfl) (by kernel_rfl) ?_ (fun ν => ?_)
    ·exact fun _=>trivial
    simp only [aO,aS,aP,aU]
    iterate 15 (refine Grow.val (v := ?_) rfl rfl (fun wg hbg hdg => ?_) ?_;rotate_left;(focus ((obtain ⟨sf,sg,so⟩:=je.out.later hbg);(have zp:=(hbg.cell (p:=⟨lb,lo+qn,none⟩) kn).trans qg.out;have z3:=(hbg.cell (p:=⟨g2,k * 4+3,none⟩) ka).trans gy.out;have zv:=(hbg.cell (p:=⟨gv,j,none⟩) ky).trans vm.out);clear hbg hdg;first | (go_simp;done) | (go_simp;with_reducible rfl)));simp only [Act.put,aA,aD,aE])
    intro wg hb hf hM
    clear hM
    clear gr gB hl
    replace je:=h! (je.out.later hb)
    replace gn:=h! (gn.out.later hb)
    replace cF:=h! (cF.out.later hb)
    replace eg:=h! (eg.out.later hb)
    obtain ⟨gr,gB,hl⟩:=je.out
    clear hf
    clear gr gB hl
    go_wp2_with (at_mapUpdate;refine gE (q:=.i64) (b:=pm) (mm:=encT ((mO O p).take j)) (y:=plO O (qn:Int)) rfl _ _ _ _ (.inl rfl) Tryz.underlying93 Tryz.underlying3 rfl cF.out rfl ?_;intro gb jg pe ki;have pp:=h! jg;have jm:=h! ki.off;clear jg pe ki)
    go_roundw
    case rel=>exact ⟨j+1,hlt4,by go_num,(gn.out.off jm.out (fun q h1 h2=>by cases h2;have:=hC.out _ h1;omega)).now,by rw [<-xY tr.out (fun q hq=>⟨(nj.out q hq).1,(nj.out q hq).2.1⟩) lm.out tj.out];exact pp.out,Off.trans eg.out (jm.out.mono fun q _ hq=>.inl hq)⟩
    simp [intOf];omega
   obtain rfl:nf=j:=by omega
   have sl:Hid (eU wr Sf (.slice af nf cf) (p.src.map (plO O))):=h! (by have h9:=ag.out;rw [ga.out,gD, <-ga.out] at h9;exact h9)
   have ro:Hid (IMap wr pm (encT (mO O p))):=h! (by
    have h9:=lk.out
    rw [aH (by unfold mO;rw [eI,aW, <-ga.out];omega)] at h9
    exact h9)
   have qp:Hid (∀ q,In64 ((tyOf (mO O p) q).getD 0)):=h! (fun q=>sZ (fun z hz=>ef.out.2 _ (List.of_mem_zip hz).2) q)
   clear ag lk ah
   generalize wr=gb at *
   go_wp2_with fail
   refine (aAV sl.out).mono ?_
   rintro e en ⟨rfl,gs,bO⟩
   clear m2 m3
   have mq:=h! bO
   have m2:=(bO.cellA (p:=⟨g2,k * 4+2,none⟩) fd eb.out.1).trans fi.out
   have gy:=h! ((bO.cellA (p:=⟨g2,k * 4+3,none⟩) fd eb.out.1).trans cB.out)
   have kG:Hid (eU en Sv (.slice av nf cv) p.vals):=h! (ef.out.off bO (fun q h1 h2=>ml.out q h2 h1))
   have nd:Hid (IMap en pm (encT (mO O p))):=h! (ro.out.off bO (fun h=>by have:=hC.out _ h;omega))
   obtain ⟨ss,lB⟩ : ∃ ss,ss=jH (p.src.map (plO O)):=⟨_,rfl⟩
   obtain ⟨ys,lF⟩ : ∃ ys,ys=ss.map fun q=>(tyOf (mO O p) q).getD 0:=⟨_,rfl⟩
   rw [<-lB] at gs
   have nM:Hid (nf=ss.length):=h! (by rw [lB,(gS _).length_eq,aW];exact ga.out)
   have hS:Hid (ys.length=p.vals.length):=h! (by rw [lF,aW, <-nM.out];exact fj.out)
   have vc:=h! lF
   have tf:Hid (({ p with src:=ss,vals:=ys }:PhiD)=wF O p):=h! (by rw [lF,lB];rfl)
   have ow:=h! gs
   have hz14:gb.heap.size <= en.heap.size:=bO.size
   clear gs bO lB lF sl ro ef fi cB
   go_wp2_with fail
   clear m2
   go_loopw [201] (fun jv wr => ∃ j:Nat,j <= nf/\jv = .int .i64 j/\eU wr Sv (.slice av nf cv) (lH ys p.vals j)/\Off Sv en wr) (fun jv _=>nf - (intOf jv).toNat)
   case atStart=>exact ⟨0,aJ _,rfl,by rw [uL];exact kG.out,Off.refl _ _⟩
   obtain ⟨j,hj,rfl,ba,ho⟩:=hrel
   have ag:=h! ba
   have hU:=h! ho
   clear ba ho
   have hlr2:en.heap.size <= wr.heap.size:=hU.out.size
   have lz:Hid (eU wr Sf (.slice af nf cf) ss):=h! (ow.out.off hU.out (fun q h1 h2=>ml.out q h1 h2))
   by_cases hlt4:j < nf
   ·obtain ⟨s0,qt⟩ : ∃ y,ss[j]? = some y:=⟨_,aC (by rw [<-nM.out];exact hlt4)⟩
    obtain ⟨u0,sp⟩ : ∃ y,(lH ys p.vals j)[j]? = some y:=⟨_,aC (by rw [mD hS.out, <-fj.out];exact hlt4)⟩
    obtain ⟨gf,nL,hv,bb,gp,ai, -, -⟩:=lz.out.addr (i:=j) (x:=s0) qt
    rw [<-nM.out] at hv
    injection hv with e1 e2 e3
    subst e1
    subst e3
    obtain ⟨gv,qv,hv,cd,fl,bs,jq, -⟩:=ag.out.addr (i:=j) (x:=u0) sp
    rw [mD hS.out, <-fj.out] at hv
    injection hv with e4 e5 e6
    subst e4
    subst e6
    obtain ⟨t,ht⟩ : ∃ t,t=(tyOf (mO O p) s0).getD 0:=⟨_,rfl⟩
    have ot:Hid (In64 t):=h! (by rw [ht];exact qp.out s0)
    have tg:Hid (ys[j]? = some t):=h! (by rw [vc.out,aQ,qt,ht];rfl)
    have vk:Hid (∀ wg,Below wr.heap.size wr wg -> (Instr.lookup 93 (.map (some pm)) (.int .i64 s0) false).run Tryz.prog wg = .ok (.int .i64 t) wg):=h! (fun wg hbg=>by
     rw [((nd.out.off hU.out (fun h=>by have:=hF.out _ h;omega)).later hbg).lookup0 Tryz.underlying93 Tryz.underlying3 (iF _) s0,lC,ht]
     cases tyOf (mO O p) s0 <;> rfl)
    have cB:=h! ((hU.out.cellA (p:=⟨g2,k * 4+3,none⟩) (by show g2 < _;omega) eb.out.2).trans gy.out)
    have fc:=h! bs
    have mp:=h! jq
    have ii:=h! cd
    have qi:g2 < wr.heap.size:=by omega
    have an:Hid (gA wr wr):=h! (Below.refl _ _)
    clear jq bb cd e2 e5 qt sp bs ht
    go_upto_region 54 with (fail)
    clear ai
    refine wp_region_grow 9 (fun _=>.plain) (by kernel_rfl) (by kernel_rfl) ?_ (fun ν => ?_)
    ·exact fun _=>trivial
    simp only [aO,aS,aP,aU]
    iterate 9 (refine Grow.val (v := ?_) rfl rfl (fun wg hbg hdg => ?_) ?_;rotate_left;(focus ((have z3:=(hbg.cell (p:=⟨g2,k * 4+3,none⟩) qi).trans cB.out;have hlk:=vk.out wg hbg);clear hbg hdg;first | (go_simp;done) | (go_simp;with_reducible rfl)));simp only [Act.put,aA,aD,aE])
    intro wg hb hf hM
    clear hM
    replace an:=h! (an.out.later hb)
    clear hf
    have hG:=(an.out.cell (p:=⟨gv,j,none⟩) fl).trans fc.out
    have gk:∀ o,wg.frozen? ⟨gv,o,none⟩=false:=fun o=>(an.out.frozen (p:=⟨gv,o,none⟩) fl).trans (mp.out o)
    have dm:Hid (eU (wg.setCell ⟨gv,j,none⟩ (.int .i64 t)) Sv (.slice (some ⟨gv,0,none⟩) nf cv) (lH ys p.vals (j+1))):=h! (by
     have h9:=eU.set (ag.out.off (Off.of_below an.out Foot.none) (fun _ _ h=>h)) (g:=gv) (cap:=cv) (by rw [mD hS.out, <-fj.out]) (i:=j) (by rw [mD hS.out, <-fj.out];exact hlt4) ot.out
     rw [xX hS.out tg.out] at h9
     exact h9)
    have dl:Hid (Off Sv en (wg.setCell ⟨gv,j,none⟩ (.int .i64 t))):=h! ((hU.out.trans (Off.of_below an.out _)).trans ((Off.set wg ⟨gv,j,none⟩ _).mono fun z _ hz=>by have h9:z=gv:=hz;rw [h9];exact ii.out))
    clear an ag lz
    go_wp2
    go_roundw
    case rel=>exact ⟨j+1,hlt4,by go_num,dm.out,dl.out⟩
    simp [intOf];omega
   obtain rfl:nf=j:=by omega
   have sq:Hid (eU wr Sv (.slice av nf cv) ys):=h! (by have h9:=ag.out;rw [fj.out,xV hS.out, <-fj.out] at h9;exact h9)
   have fF:=h! ((gh.out.trans (mq.out.mono fun q _ h=>Or.inr h)).mono fun q _ h=>(show (q=pm \/ Sf q) \/ Sv q from .inl h))
   have dz:=h! (Off.grow (S:=Sf.or Sv) (Off.of_below ib.out _) (fF.out.trans (hU.out.mono fun q _ h=>Or.inr h)) (fun q hq=>by
    rcases hq with (e | h) | h
    ·exact .inr (by rw [e,na.out];exact aB _)
    ·exact .inl (.inl h)
    exact .inl (.inr h)))
   have oh:Hid (fS wr S1 (.slice (some ⟨g2,0,none⟩) cn fb) (gC (wF O) x1.phis (k+1))):=h! (by
    have h9:=oz.out wr ss ys dz.out lz.out sq.out
    rw [tf.out,fX HP.out] at h9
    exact h9)
   have hE:Hid (Off S1 bp wr):=h! (bx.out.trans (dz.out.mono fun q _ h=>h.elim (dp.out.1 q) (dp.out.2 q)))
   clear ag lz sq fF dz
   go_wp2
   go_roundw
   case rel=>exact ⟨k+1,hlt3,by go_num,oh.out,hE.out⟩
   simp [intOf];omega
  obtain rfl:cn=k:=by omega
  have kq:Hid (fS wr S1 (.slice gw cn fb) (x1.phis.map (wF O))):=h! (by have h9:=ag.out;rw [es.out,gD, <-es.out] at h9;exact h9)
  have nx:Hid (fA wr SO (.slice (some ⟨g1,0,none⟩) no co) (gC (tO O) xs1 (i+1))):=h! (by
   have h9:=jx.out wr _ bx.out kq.out
   rw [show ({ x1 with phis:=x1.phis.map (wF O) }:BlockD)=tO O x1 from rfl,fX tt.out] at h9
   exact h9)
  have hE:Hid (Off SO w9 wr):=h! (dq.out.trans (bx.out.mono fun q _ hq=>kf.out q hq))
  clear kq ag
  go_wp2
  go_roundw
  case rel=>exact ⟨i+1,hlt2,by go_num,nx.out,hE.out⟩
  simp [intOf];omega
 obtain rfl:no=i:=by omega
 --@X0
 have mt:Hid (fA wr SO (.slice ao no co) (renF f O).blocks):=h! (by
  have h9:=ag.out
  rw [ey.out,gD, <-ey.out,lh.out,xZ,nz.out,kk.out] at h9
  exact h9)
 clear ag
 replace HW:=h! (HW.out.trans (he.out.below (base:=w.heap.size) HW.out.size (fun k _ hk=>by have:=bj.out k hk;omega)))
 replace B2:=h! (B2.out.off he.out (fun hk=>ea.out _ hk (by simp)))
 replace B5:=h! (B5.out.off he.out (fun hk=>ea.out _ hk (by simp)))
 replace HQ:=h! (HQ.out.off he.out mr.out)
 --@X1
 have jr:Hid (Holds [w.heap.size,w.heap.size+1,b4,b4+1,mb,b6] w1.heap.size wr SO (fun W=>fA W SO (.slice ao no co) (renF f O).blocks)):=h! ⟨mt.out,fun _ _ h hk=>h.keep OBlock.nice hk,mt.out.lt,bj.out,ea.out⟩
 clear mt he
 generalize wr=wz at *
 obtain ⟨aq,be,bk⟩:=B2.out
 obtain ⟨ax,bn,bo⟩:=B5.out
 --@X2
 go_upto_region 58 with (fail)
 repeat (first | go_skip | go_guarded | go_step | go_upon)
 --@X4
 clear aq be bk ax bn bo
 have pr:=((((Only.set wz (w.heap.size+1) 0 (.slice bf np bh)).put 1 (.int .i64 ar)).put 2 (.int .i64 ce)).put 3 (.slice ao no co))
 replace B5:=h! (B5.out.only pr (by first | assumption | (simp;done) | omega))
 replace HQ:=h! ((((HQ.out.other (p:=⟨w.heap.size+1,0,none⟩) (.slice bf np bh) (by simp)).other (p:=⟨w.heap.size+1,1,none⟩) (.int .i64 ar) (by simp)).other (p:=⟨w.heap.size+1,2,none⟩) (.int .i64 ce) (by simp)).other (p:=⟨w.heap.size+1,3,none⟩) (.slice ao no co) (by simp))
 replace jr:=h! ((((jr.out.other (p:=⟨w.heap.size+1,0,none⟩) (.slice bf np bh) (by simp)).other (p:=⟨w.heap.size+1,1,none⟩) (.int .i64 ar) (by simp)).other (p:=⟨w.heap.size+1,2,none⟩) (.int .i64 ce) (by simp)).other (p:=⟨w.heap.size+1,3,none⟩) (.slice ao no co) (by simp))
 replace HW:=h! (pr.2.2 HW.out (by first | assumption | omega | (have:=HW.out.size;omega) | (simp;done) | (simp;omega)))
 replace B2:=h! (Box.to (A':=#[(.slice bf np bh),(.int .i64 ar),(.int .i64 ce),(.slice ao no co)]) ((((B2.out.set 0 (.slice bf np bh)).set 1 (.int .i64 ar)).set 2 (.int .i64 ce)).set 3 (.slice ao no co)) (by first | rfl | simp))
 clear pr
 generalize ((((wz.setCell ⟨w.heap.size+1,0,none⟩ (.slice bf np bh)).setCell ⟨w.heap.size+1,1,none⟩ (.int .i64 ar)).setCell ⟨w.heap.size+1,2,none⟩ (.int .i64 ce)).setCell ⟨w.heap.size+1,3,none⟩ (.slice ao no co))=wy at *
 obtain ⟨aq,be,bk⟩:=B2.out
 obtain ⟨ax,bn,bo⟩:=B5.out
 --@X3
 refine bodyPost_ret (v:=.agg #[.slice bf np bh,.int .i64 ar,.int .i64 ce,.slice ao no co]) (by simp [results,Tryz.results37,go_sem,be]) rfl ⟨O,_,fun q=>SQ q \/ SO q,HO.out,rfl,⟨⟨_,_,SQ,SO,by rw [lw.out.1,lw.out.2];rfl,HQ.out.now,jr.out.now,mr.out,fun k h=>.inl h,fun k h=>.inr h⟩,fun k hk=>hk.elim (HQ.out.lt k) (jr.out.lt k),rd.out.1,rd.out.2⟩,fun k hk => ?_,HW.out⟩
 rcases hk with hk | hk
 ·have:=HQ.out.base k hk;omega
 have:=jr.out.base k hk;omega
end Go.Proofs.YtagabiidbbhhmaaGreat
