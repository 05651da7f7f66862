/- Part 56. -/
import Derived.Test.YtagabiidbbhhmaaGreatEU54
import Derived.Test.YtagabiidbbhhmaaGreatEU55
namespace Go.Proofs.YtagabiidbbhhmaaGreat
set_option linter.all false
open Go.RowKit
private theorem fN.alloc {w0 W:World} (h:fN w0 W) (o:Obj):fN w0 (W.alloc o):=h.later ((Below.refl _ _).alloc (aC _) o)
set_option maxHeartbeats 25600000 in
set_option maxRecDepth 100000 in
theorem aB3 {w:World} {v:Value} {f:FuncD} (hv:fP w v f) (hc:eV f=0) (hr:gD f 0 0):Calls Tryz.prog 37 #[v] w (vI f w):=by
 have HV:=h! hv
 obtain ⟨ap,cp,ab,cb,rfl,hp,ha,mp,hB⟩:=hv.form
 have ro:=h! hc
 have fe:=h! (qF hr)
 have HF:=h! (eY hc).1
 have qt:=h! (mK hc)
 obtain ⟨np,lm⟩ : ∃ np,np=f.params.length:=⟨_,rfl⟩
 obtain ⟨ar,ln⟩ : ∃ ar,ar=f.arrays:=⟨_,rfl⟩
 obtain ⟨ce,mc⟩ : ∃ ce,ce=f.cells:=⟨_,rfl⟩
 obtain ⟨nb,ia⟩ : ∃ nb,nb=f.blocks.length:=⟨_,rfl⟩
 rw [<-ia, <-lm, <-ln, <-mc] at HV
 rw [<-ia, <-lm, <-ln, <-mc]
 have hn1:1 <= nb:=by rw [ia];exact (gG HF.out).1
 have h512:nb <= 512:=by rw [ia];exact (gG HF.out).2
 have ef:=h! ia
 have lf:=h! lm
 have mh:Hid (ar=f.arrays/\ce=f.cells):=h! ⟨ln,mc⟩
 clear hp ha mp hB hv lm ia ln mc hc hr
 go_enter Tryz.func37,Tryz.ntmps37
 go_upto_region 1 with (fail)
 have ac:=(Below.refl w.heap.size w).alloc (aC _) (.cells #[.slice ap np cp,.int .i64 ar,.int .i64 ce,.slice ab nb cb] 25)
 have HW:=h! ac
 clear ac
 have B1:=h! (Box.new w #[.slice ap np cp,.int .i64 ar,.int .i64 ce,.slice ab nb cb] 25)
 have dz:(w.alloc (.cells #[.slice ap np cp,.int .i64 ar,.int .i64 ce,.slice ab nb cb] 25)).heap.size=w.heap.size+1:=World.size_alloc _ _
 generalize w.alloc (.cells #[.slice ap np cp,.int .i64 ar,.int .i64 ce,.slice ab nb cb] 25)=lp at *
 have ac:=(Below.refl lp.heap.size lp).alloc (aC _) (.cells #[.slice none 0 0,.int .i64 0,.int .i64 0,.slice none 0 0] 25)
 replace B1:=h! (B1.out.later ac)
 replace HW:=h! (HW.out.trans (ac.mono HW.out.size))
 clear ac
 have B2:=h! (Box.new lp #[.slice none 0 0,.int .i64 0,.int .i64 0,.slice none 0 0] 25)
 rw [dz] at B2
 clear dz
 generalize lp.alloc (.cells #[.slice none 0 0,.int .i64 0,.int .i64 0,.slice none 0 0] 25)=wv at *
 obtain ⟨bt,dh,dc⟩:=B1.out
 obtain ⟨aq,bd,bk⟩:=B2.out
 go_wp2_with fail
 refine (uW (HV.out.below HW.out) HF.out).mono ?_
 rintro e w1 ⟨bg,O,rfl,hO,⟨g0,g1,g2,g3,pv,ov,lv,e0,hbg,hwbg,tm,rs,rz⟩,hb⟩
 obtain ⟨rfl,rfl,rfl,rfl⟩ : Value.slice ap np cp=g0/\Value.int .i64 ar=g1/\Value.int .i64 ce=g2/\Value.slice ab nb cb=g3:=by simpa using e0
 obtain ⟨la,lc,lb,lo,rfl,tj,vb,nq,ow⟩:=rz.parts
 obtain ⟨oa,oc,ob,oo,rfl,vg,hom,ph,nc⟩:=rs.parts
 obtain ⟨no,hN⟩ : ∃ no,no=O.length:=⟨_,rfl⟩
 rw [fR, <-ef.out] at tj nq ow hbg
 rw [fE, <-hN] at vg ph nc hbg
 have sv:=sR hO fe.out 0 (by have:=ef.out;omega)
 have hno1:1 <= no:=by rw [hN];exact List.length_pos_of_mem sv
 have hno2:no <= nb:=by rw [hN,ef.out];exact hO.le
 obtain ⟨rfl,ry⟩:=nq (by omega)
 obtain ⟨rfl,va⟩:=ph (by omega)
 have dl:=h! hN
 have HO:=h! hO
 have li:=h! hbg
 have se:=h! (sR hO fe.out)
 have sr:Hid (∀ q:Int,q.toNat < nb -> q.toNat ∈ O -> w1.cell? ⟨lb,lo+q.toNat,none⟩=some (.int .i64 (plO O q))):=h! (fun q h1 h2=>by
  rw [ow q.toNat h1]
  rw [getD_some (aC1 (n:=nb) h2 h1)])
 have td:Hid (∀ (i b:Nat),O[i]? = some b -> w1.cell? ⟨ob,oo+i,none⟩=some (.int .i64 (b:Int))):=h! (fun i b hi=>by
  rw [nc i (by rw [hN];exact (aD.1 hi).1)]
  rw [getD_some (x:=(b:Int)) (by unfold natI;rw [aO,hi];rfl)])
 have gd:Hid (∀ q:Int,q.toNat ∈ O -> In64 (plO O q)):=h! (fun q hq=>by
  have:=dC hq
  unfold plO
  exact ⟨by omega,by omega⟩)
 have vj:Hid (Named np (idsO f O)):=h! (by rw [lf.out];exact zT ro.out hO fe.out)
 have qd:Hid (np+(idsO f O).length <= 4112):=h! (by rw [lf.out];exact uA ro.out hO fe.out)
 have hnp4:np <= 4112:=by have:=qd.out;omega
 obtain ⟨rn,qa⟩ : ∃ rn,rn=renV np (idsO f O):=⟨_,rfl⟩
 have nv:=h! qa
 have gk:Hid (∀ v,In64 (rn v)):=h! (fun v=>by rw [qa];exact nH (yD (by have:=qd.out;omega)) v)
 have ae:Hid (Holds [] 0 w1 (fun k=>k < w1.heap.size) (OldK w1)):=h! (aBH w1)
 have hbgl:bg < w1.heap.size:=hbg.lt
 clear tm rs rz ow nc nq ph hbg hN qa sv hO e0
 clear bt dh dc aq bd bk
 replace B1:=h! (B1.out.later hb)
 replace B2:=h! (B2.out.later hb)
 replace HW:=h! (HW.out.trans (hb.mono HW.out.size))
 clear hb
 obtain ⟨bt,dh,dc⟩:=B1.out
 obtain ⟨aq,bd,bk⟩:=B2.out
 go_wp2_with fail
 refine (aDF (HV.out.below HW.out) qt.out.1 qt.out.2).mono ?_
 rintro e w2 ⟨vo,SO0,rfl,vh,qm,hb⟩
 obtain ⟨⟨pa,bv,SQ,SB,rfl,hQ,hX,sj,st,sp⟩,hs,lh,ja⟩:=vh
 obtain ⟨bh,bi,rfl⟩:=hQ.ints.form
 have sd:=h! (And.intro lh ja)
 have hl1:w.heap.size+1+1 <= w1.heap.size:=aq
 have HQ:Hid (Holds [w.heap.size,w.heap.size+1] w1.heap.size w2 SQ (fun W=>eR W SQ (.slice bh np bi) f.params)):=h! (by
  have h9:=(gF hQ (fun k hk=>qm k (st k hk))).low (bs':=[w.heap.size,w.heap.size+1]) (by intro z hz;simp at hz;omega)
  rw [<-lf.out] at h9;exact h9)
 have br:Hid ((∀ k,SB k -> w1.heap.size <= k/\k < w2.heap.size)/\SQ.off SB /\ ∀ k,SQ k -> k < w2.heap.size):=h! ⟨fun k hk=>⟨qm k (sp k hk),hX.lt k hk⟩,sj,hQ.lt⟩
 obtain ⟨cs,G,F,hp⟩:=hX
 obtain ⟨g,cap,jg,qx, -, -,sx, -, -⟩:=hp.row.addr (by have:=ef.out;omega)
 rw [<-ef.out] at jg
 subst jg
 have HP:Hid (Holds [w.heap.size,w.heap.size+1] w1.heap.size w2 SB (fun W=>OParts OBlock 63 6 W SB (.slice (some ⟨g,0,none⟩) nb cap) f.blocks cs G F)):=h! ⟨hp,fun _ _ h hk=>h.keep OBlock.nice hk,hp.lt,fun k hk=>(br.out.1 k hk).1,fun k hk=>by have:=(br.out.1 k hk).1;simp;omega⟩
 have ts:=h! (hp.inG g qx)
 have mo:=h! qx
 rw [<-mh.out.1, <-mh.out.2, <-lf.out]
 clear hQ hp sj st sp hs qm qx lh ja
 have qz:w1.heap.size <= w2.heap.size:=hb.size
 clear bt dh dc aq bd bk
 replace B1:=h! (B1.out.later hb)
 replace B2:=h! (B2.out.later hb)
 replace ae:=h! (ae.out.later hb)
 replace HW:=h! (HW.out.trans (hb.mono HW.out.size))
 clear hb
 obtain ⟨bt,dh,dc⟩:=B1.out
 obtain ⟨aq,bd,bk⟩:=B2.out
 go_upto_region 5 with (fail)
 replace HQ:=h! ((HQ.out.more (aC _)).more (b:=w2.heap.size+1) (Nat.le_succ _))
 replace HP:=h! ((HP.out.more (aC _)).more (b:=w2.heap.size+1) (Nat.le_succ _))
 have gj:w2.heap.size ≠ w.heap.size:=fun e=>by have:=bt;omega
 have kr:w.heap.size ≠ w2.heap.size:=fun e=>gj e.symm
 have ga:w2.heap.size ≠ w.heap.size+1:=fun e=>by have:=aq;omega
 have iz:w.heap.size+1 ≠ w2.heap.size:=fun e=>ga e.symm
 have gh:w2.heap.size+1 ≠ w.heap.size:=fun e=>by have:=bt;omega
 have ka:w.heap.size ≠ w2.heap.size+1:=fun e=>gh e.symm
 have gb:w2.heap.size+1 ≠ w.heap.size+1:=fun e=>by have:=aq;omega
 have kl:w.heap.size+1 ≠ w2.heap.size+1:=fun e=>gb e.symm
 have jz:w2.heap.size+1 ≠ w2.heap.size:=by omega
 have ii:w2.heap.size ≠ w2.heap.size+1:=by omega
 clear bt dh dc aq bd bk
 have ac:=(Below.refl w2.heap.size w2).alloc (aC _) (.cells #[.slice bh np bi,.int .i64 ar,.int .i64 ce,.slice (some ⟨g,0,none⟩) nb cap] 25)
 replace B1:=h! (B1.out.later ac)
 replace B2:=h! (B2.out.later ac)
 replace ae:=h! (ae.out.later ac)
 replace HQ:=h! (HQ.out.later ac)
 replace HP:=h! (HP.out.later ac)
 replace HW:=h! (HW.out.trans (ac.mono HW.out.size))
 clear ac
 have B4:=h! (Box.new w2 #[.slice bh np bi,.int .i64 ar,.int .i64 ce,.slice (some ⟨g,0,none⟩) nb cap] 25)
 have dz:(w2.alloc (.cells #[.slice bh np bi,.int .i64 ar,.int .i64 ce,.slice (some ⟨g,0,none⟩) nb cap] 25)).heap.size=w2.heap.size+1:=World.size_alloc _ _
 generalize w2.alloc (.cells #[.slice bh np bi,.int .i64 ar,.int .i64 ce,.slice (some ⟨g,0,none⟩) nb cap] 25)=er at *
 have ac:=(Below.refl er.heap.size er).alloc (aC _) (.cells #[.slice bh np bi,.int .i64 ar,.int .i64 ce,.slice none 0 0] 25)
 replace B1:=h! (B1.out.later ac)
 replace B2:=h! (B2.out.later ac)
 replace B4:=h! (B4.out.later ac)
 replace ae:=h! (ae.out.later ac)
 replace HQ:=h! (HQ.out.later ac)
 replace HP:=h! (HP.out.later ac)
 replace HW:=h! (HW.out.trans (ac.mono HW.out.size))
 clear ac
 have B5:=h! (Box.new er #[.slice bh np bi,.int .i64 ar,.int .i64 ce,.slice none 0 0] 25)
 rw [dz] at B5
 clear dz
 generalize er.alloc (.cells #[.slice bh np bi,.int .i64 ar,.int .i64 ce,.slice none 0 0] 25)=w4 at *
 obtain ⟨bt,dh,dc⟩:=B1.out
 obtain ⟨aq,bd,bk⟩:=B2.out
 obtain ⟨bz,cz,db⟩:=B4.out
 obtain ⟨ay,bn,bo⟩:=B5.out
 have rb:w2.heap.size+1 < w4.heap.size:=ay
 obtain ⟨b4,pw⟩ : ∃ b4,b4=w2.heap.size:=⟨_,rfl⟩
 rw [<-pw] at HQ HP br B4 B5 qz rb sx
 simp only [<-pw]
 clear pw
 have nd:=@run_makeMap Tryz.prog
 go_upto_region 6 with (fail)
 clear nd
 have HI:=h! (IMap.new w4)
 have fd:=(Below.refl w4.heap.size w4).alloc (aC _) (.map #[] 0)
 clear bt dh dc aq bd bk bz cz db ay bn bo
 replace B1:=h! (B1.out.later fd)
 replace B2:=h! (B2.out.later fd)
 replace B4:=h! (B4.out.later fd)
 replace B5:=h! (B5.out.later fd)
 replace ae:=h! (ae.out.later fd)
 replace HQ:=h! (HQ.out.later fd)
 replace HP:=h! (HP.out.later fd)
 replace HW:=h! (HW.out.trans (fd.mono HW.out.size))
 clear fd
 obtain ⟨bt,dh,dc⟩:=B1.out
 obtain ⟨aq,bd,bk⟩:=B2.out
 obtain ⟨bz,cz,db⟩:=B4.out
 obtain ⟨ay,bn,bo⟩:=B5.out
 obtain ⟨mb,lF⟩ : ∃ mb,mb=w4.heap.size:=⟨_,rfl⟩
 rw [<-lF] at HI rb
 simp only [<-lF]
 have ns:(w4.alloc (.map #[] 0)).heap.size=mb+1:=by rw [World.size_alloc,lF]
 clear lF
 generalize w4.alloc (.map #[] 0)=w5 at *
 have tw:mb < w5.heap.size:=HI.out.lt
 have fy:w5.heap.size ≠ w.heap.size:=fun e=>by have:=bt;omega
 have kz:w.heap.size ≠ w5.heap.size:=fun e=>fy e.symm
 have gc:w5.heap.size ≠ w.heap.size+1:=fun e=>by have:=aq;omega
 have kh:w.heap.size+1 ≠ w5.heap.size:=fun e=>gc e.symm
 have fv:w5.heap.size ≠ b4:=fun e=>by have:=bz;omega
 have lg:b4 ≠ w5.heap.size:=fun e=>fv e.symm
 have fq:w5.heap.size ≠ b4+1:=fun e=>by have:=ay;omega
 have jx:b4+1 ≠ w5.heap.size:=fun e=>fq e.symm
 clear bt dh dc aq bd bk bz cz db ay bn bo
 have ac:=(Below.refl w5.heap.size w5).alloc (aC _) (.cells #[.map (some mb)] 93)
 replace B1:=h! (B1.out.later ac)
 replace B2:=h! (B2.out.later ac)
 replace B4:=h! (B4.out.later ac)
 replace B5:=h! (B5.out.later ac)
 replace ae:=h! (ae.out.later ac)
 replace HQ:=h! (HQ.out.later ac)
 replace HP:=h! (HP.out.later ac)
 replace HI:=h! (HI.out.later ac)
 replace HW:=h! (HW.out.trans (ac.mono HW.out.size))
 clear ac
 have B6:=h! (Box.new w5 #[.map (some mb)] 93)
 generalize w5.alloc (.cells #[.map (some mb)] 93)=w6 at *
 obtain ⟨bt,dh,dc⟩:=B1.out
 obtain ⟨aq,bd,bk⟩:=B2.out
 obtain ⟨bz,cz,db⟩:=B4.out
 obtain ⟨ay,bn,bo⟩:=B5.out
 obtain ⟨ea,ej,em⟩:=B6.out
 obtain ⟨b6,lB⟩ : ∃ b6,b6=mb+1:=⟨_,rfl⟩
 rw [ns, <-lB] at B6
 rw [ns, <-lB] at tw
 simp only [<-lB]
 clear lB ns
 have ty:b6 < w6.heap.size:=B6.out.lt
 clear fy kz gc kh fv lg fq jx gj kr ga iz gh ka gb kl jz ii
 go_wp2_with fail
 clear bt dh dc aq bd bk bz cz db ay bn bo ea ej em
 go_loopw [36] (fun iv wr => ∃ j:Nat,j <= np/\iv = .int .i64 j/\IMap wr mb (encT (parJ j))/\Turn [mb] w6 wr) (fun iv _=>np - (intOf iv).toNat)
 case atStart=>exact ⟨0,aH _,rfl,HI.out,Turn.refl _ _⟩
 obtain ⟨j,hj,rfl,hI,hT⟩:=hrel
 replace HI:=h! hI
 have HT:=h! hT
 clear hI hT
 generalize wr=w7 at *
 have ax:Hid (Off (Foot.one mb) w6 w7):=h! HT.out.off
 replace B6:=h! (B6.out.off ax.out (fun h=>by have e:b6=mb:=h;omega))
 by_cases hs:j < np
 ·skip
  obtain ⟨ea,ej,em⟩:=B6.out
  go_wp2_with (at_mapUpdate;refine fJ (q:=.i64) (b:=mb) (mm:=encT (parJ j)) (y:=j) rfl _ _ _ _ (.inl rfl) Tryz.underlying93 Tryz.underlying3 rfl HI.out rfl ?_;intro w9 kd oe jq;have tl:=h! kd;have sk:=h! jq;clear kd oe jq)
  go_roundw
  case rel=>exact ⟨j+1,hs,by go_num,by rw [<-aBL];exact tl.out,HT.out.trans sk.out⟩
  simp [intOf];omega
 obtain rfl:np=j:=by omega
 replace HI:Hid (IMap w7 mb (encT (fK np []))):=h! (by rw [aBM];exact HI.out)
 replace HW:=h! (HW.out.trans (ax.out.below HW.out.size (fun k _ hk=>by cases hk;omega)))
 replace B1:=h! (B1.out.off ax.out (fun h=>by have e:w.heap.size=mb:=h;omega))
 replace B2:=h! (B2.out.off ax.out (fun h=>by have e:w.heap.size+1=mb:=h;omega))
 replace B4:=h! (B4.out.off ax.out (fun h=>by have e:b4=mb:=h;omega))
 replace B5:=h! (B5.out.off ax.out (fun h=>by have e:b4+1=mb:=h;omega))
 replace ae:=h! (ae.out.off ax.out (fun k h1 h2=>by cases h2;omega))
 replace HQ:=h! (HQ.out.off ax.out (fun k h1 h2=>by cases h2;have:=br.out.2.2 mb h1;omega))
 replace HP:=h! (HP.out.off ax.out (fun k h1 h2=>by cases h2;have:=br.out.1 mb h1;omega))
 have hz7:b6 < w7.heap.size:=B6.out.lt
 clear HT ax ty
 obtain ⟨bt,dh,dc⟩:=B1.out
 obtain ⟨aq,bd,bk⟩:=B2.out
 obtain ⟨bz,cz,db⟩:=B4.out
 obtain ⟨ay,bn,bo⟩:=B5.out
 obtain ⟨ea,ej,em⟩:=B6.out
 obtain ⟨lG,cG,fG⟩:=ae.out.now.box li.out
 go_wp2_with fail
 clear lG cG fG
 clear bt dh dc aq bd bk bz cz db ay bn bo ea ej em
 --@A
 have kL:=HP
 have th:=HQ
 clear HP HQ
 go_loopw [49] (fun iv wr => ∃ (i:Nat) (SO:Foot) (ao:Option Addr) (co:Nat),i <= no/\iv = .int .i64 i/\OffF (fun k=>k=mb \/ k=b4+1 \/ ∃ d,d ∈ O.take i/\F d k) w7 wr/\IMap wr mb (encT (fK np (idsO f (O.take i))))/\Box wr (b4+1) #[.slice bh np bi,.int .i64 ar,.int .i64 ce,.slice ao i co] /\
   Holds [w.heap.size,w.heap.size+1,b4,b4+1,mb,b6] w1.heap.size wr SO (fun W=>eX W SO (.slice ao i co) ((O.take i).map fun b=>idB rn O (kX f b))) /\ ∀ k,SO k -> (∃ d,d ∈ O.take i/\F d k) \/ w7.heap.size <= k) (fun iv _=>no - (intOf iv).toNat)
 case atStart=>exact ⟨0,Foot.none,none,0,aH _,rfl,Off.refl _ _,HI.out,B5.out,⟨OSl.nil none,fun _ _ h hk=>h.keep OBlock.nice hk,fun k h=>h.elim,fun k h=>h.elim,fun k h=>h.elim⟩,fun k h=>h.elim⟩
 obtain ⟨i,SO,ao,co,hi,rfl,en,hI,rv,ri,rm⟩:=hrel
 have cn:=h! en
 replace HI:=h! hI
 replace B5:=h! rv
 have gr:=h! ri
 have hU:=h! rm
 clear en hI rv ri rm
 have gq:Hid (∀ d,d ∈ O -> ∀ k,F d k -> SB k):=h! (fun d hd k hk=>kL.out.now.inF d k (HO.out.facts.2.2.1 d hd) hk)
 have hW:Hid (∀ k,(k=mb \/ k=b4+1 \/ ∃ d,d ∈ O.take i/\F d k) -> w1.heap.size <= k/\(k < b4 \/ k=mb \/ k=b4+1) /\ ¬ SQ k):=h! (fun k hk=>by
  rcases hk with rfl | rfl | ⟨d,hd,hk⟩
  ·exact ⟨by omega,.inr (.inl rfl),fun h=>by have:=br.out.2.2 _ h;omega⟩
  ·exact ⟨by omega,.inr (.inr rfl),fun h=>by have:=br.out.2.2 _ h;omega⟩
  have h1:=gq.out d (cJ hd) k hk
  have h2:=br.out.1 k h1
  exact ⟨h2.1,.inl h2.2,fun h=>br.out.2.1 k h h1⟩)
 replace HW:=h! (HW.out.trans (Off.below cn.out HW.out.size (fun k _ hk=>by have:=(hW.out k hk).1;omega)))
 replace B2:=h! (B2.out.off cn.out (fun h=>by have:=(hW.out _ h).1;omega))
 replace B4:=h! (B4.out.off cn.out (fun h=>by have:=(hW.out _ h).2.1;omega))
 replace B6:=h! (B6.out.off cn.out (fun h=>by have:=(hW.out _ h).2.1;omega))
 replace ae:=h! (ae.out.off cn.out (fun k h1 h2=>by have:=(hW.out k h2).1;omega))
 generalize wr=w8 at *
 have og:w7.heap.size <= w8.heap.size:=Off.size cn.out
 --@G0
 by_cases hs:i < no
 ·obtain ⟨b,hR⟩ : ∃ b,O[i]? = some b:=⟨_,aB (by rw [<-dl.out];exact hs)⟩
  --@G6
  have iy:b ∈ O:=aG hR
  have rt:b < nb:=by rw [ef.out];exact HO.out.facts.2.2.1 b iy
  obtain ⟨x,hx⟩ : ∃ x,f.blocks[b]? = some x:=⟨_,aB (by rw [<-ef.out];exact rt)⟩
  have oz:Hid (kX f b=x):=h! (nM hx)
  --@G7
  have sc:b ∉ O.take i:=vH HO.out.facts.1 hR
  have qb:b < f.blocks.length:=by rw [<-ef.out];exact rt
  --@G5
  have nm:∀ k,F b k -> ¬ (k=mb \/ k=b4+1 \/ ∃ d,d ∈ O.take i/\F d k):=fun k h1 h2=>by
   have h3:=br.out.1 k (gq.out b iy k h1)
   rcases h2 with e | e | ⟨d,hd,h2⟩
   ·omega
   ·omega
   exact kL.out.now.apart b d qb (HO.out.facts.2.2.1 d (cJ hd)) (fun e=>sc (e ▸ hd)) k h1 h2
  --@G1
  have tf:=br.out.1 g ts.out
  have sg:¬ (g=mb \/ g=b4+1 \/ ∃ d,d ∈ O.take i/\F d g):=fun h2=>by
   rcases h2 with e | e | ⟨d,hd,h2⟩
   ·omega
   ·omega
   exact kL.out.now.free d (HO.out.facts.2.2.1 d (cJ hd)) g h2 mo.out
  --@G2
  have sl:=OBlock.nice.off (kL.out.now.el b x hx) cn.out nm
  obtain ⟨apx,df,cB,cpx,bw,cc,S1,S2,S3,hS,h1,h2,h3,kP,rr,rl,i1,i2,i3,q1,q2,q3,dp⟩:=sl.parts
  obtain ⟨g',pl,jg, -, -, -, -,ai,nj⟩:=kL.out.now.row.addr (by omega)
  obtain ⟨rfl,rfl⟩ : g=g' /\ cap=pl:=by injection jg with h1 h2 h3;injection h1 with h1;injection h1 with h1;exact ⟨h1,h3⟩
  have vf:g < w7.heap.size:=by omega
  have hc:∀ o u,o < 6 -> (iP cs 6 b)[o]? = some u -> w8.cell? ⟨g,b * 6+o,none⟩=some u:=fun o u ho hu=>(Off.cell cn.out vf sg).trans (ai _ _ (by rw [<-jL ho];exact hu))
  rw [hS] at hc
  have k0:=hc 0 _ (by omega) rfl
  have k1:=hc 1 _ (by omega) rfl
  have k2:=hc 2 _ (by omega) rfl
  have k3:=hc 3 _ (by omega) rfl
  have k4:=hc 4 _ (by omega) rfl
  have k5:=hc 5 _ (by omega) rfl
  rw [eN] at k0
  have ko:=(ae.out.now.cell va).trans (td.out i b hR)
  have kc:=h! (qt.out.1 x (aG hx))
  have tb:=h! (oC HF.out hx)
  --@G3
  obtain ⟨npx,fh⟩ : ∃ n,n=x.phis.length:=⟨_,rfl⟩
  obtain ⟨az,fb⟩ : ∃ n,n=x.code.length:=⟨_,rfl⟩
  obtain ⟨bj,ey⟩ : ∃ n,n=x.term.to.length:=⟨_,rfl⟩
  rw [<-fh] at k0 h1 dp hS
  rw [<-fb] at k1 h2 dp hS
  rw [<-ey] at k4 h3 dp hS
  have cx:=h! fh
  have dg:=h! fb
  have da:=h! ey
  have hnpb:npx <= 100000:=by rw [fh];exact kc.out.1
  have hncb:az <= 100000:=by rw [fb];exact kc.out.2
  have hntb:bj <= 17592186044416:=by have h9:=h3.1.big;rw [<-ey] at h9;exact h9
  have vd:=h! hS
  have pe:=h! dp
  have fs:=h! (And.intro kP (And.intro rr rl))
  have dj:=h! (And.intro i1 (And.intro i2 i3))
  have dx:Hid (∀ k,F b k -> w1.heap.size <= k/\k < b4):=h! (fun k hk=>br.out.1 k (gq.out b iy k hk))
  have ta:=h! nm
  have HX:=h! hx
  have lj:=h! hR
  have HBO:=h! iy
  have H1:Hid (Holds [] w1.heap.size w8 S1 (fun W=>fV W S1 (.slice apx npx cpx) x.phis)):=h! (jE OPhi.nice h1 (fun k hk=>(dx.out k (i1 k hk)).1))
  have H2:Hid (Holds [] w1.heap.size w8 S2 (fun W=>gX W S2 (.slice df az bw) x.code)):=h! (jE OInstr.nice h2 (fun k hk=>(dx.out k (i2 k hk)).1))
  have H3:Hid (Holds [] w1.heap.size w8 S3 (fun W=>eR W S3 (.slice cB bj cc) x.term.to)):=h! (gF h3 (fun k hk=>(dx.out k (i3 k hk)).1))
  --@G4
  obtain ⟨pre,fm⟩ : ∃ pre,pre=idsO f (O.take i):=⟨_,rfl⟩
  obtain ⟨post,bp⟩:=aBI (f:=f) hR
  rw [oz.out,sQ, <-fm] at bp
  have ip:Hid (Named np (pre ++ (fW x.phis ++ fO x.code) ++ post)):=h! (by rw [<-bp];exact vj.out)
  have ir:Hid (rn=renV np (pre ++ (fW x.phis ++ fO x.code) ++ post)):=h! (by rw [<-bp];exact nv.out)
  have HSMX:Hid (np+(pre ++ (fW x.phis ++ fO x.code) ++ post).length <= 4112):=h! (by rw [<-bp];exact qd.out)
  have pt:=h! fm
  rw [<-fm] at HI
  clear jg ai hc sl hx hR nm sg nj hS h1 h2 h3 kP rr rl i1 i2 i3 q1 q2 q3 dp fh fb ey fm bp iy sc tf
  obtain ⟨bz,cz,db⟩:=B4.out
  obtain ⟨ay,bn,bo⟩:=B5.out
  obtain ⟨ea,ej,em⟩:=B6.out
  --@B0
  go_upto_region 16 with (fail)
  --@B1
  have kq:w8.heap.size ≠ b4:=fun e=>by have:=bz;omega
  have nB4BL:b4 ≠ w8.heap.size:=fun e=>kq e.symm
  have ij:w8.heap.size ≠ b4+1:=fun e=>by have:=ay;omega
  have nB5BL:b4+1 ≠ w8.heap.size:=fun e=>ij e.symm
  have kg:w8.heap.size ≠ b6:=fun e=>by have:=ea;omega
  have nB6BL:b6 ≠ w8.heap.size:=fun e=>kg e.symm
  clear bz cz db ay bn bo ea ej em
  have ac:=(Below.refl w8.heap.size w8).alloc (aC _) (.cells #[.slice apx npx cpx,.slice df az bw,.int .i64 x.term.op,.int .i64 x.term.val,.slice cB bj cc,.int .i64 x.term.n] 63)
  replace B4:=h! (B4.out.later ac)
  replace B5:=h! (B5.out.later ac)
  replace B6:=h! (B6.out.later ac)
  replace cn:=h! (cn.out.later ac)
  replace HI:=h! (HI.out.later ac)
  replace gr:=h! (gr.out.later ac)
  replace ae:=h! (ae.out.later ac)
  replace H1:=h! (H1.out.later ac)
  replace H2:=h! (H2.out.later ac)
  replace H3:=h! (H3.out.later ac)
  replace HW:=h! (HW.out.trans (ac.mono HW.out.size))
  clear ac
  have BL:=h! (Box.new w8 #[.slice apx npx cpx,.slice df az bw,.int .i64 x.term.op,.int .i64 x.term.val,.slice cB bj cc,.int .i64 x.term.n] 63)
  generalize w8.alloc (.cells #[.slice apx npx cpx,.slice df az bw,.int .i64 x.term.op,.int .i64 x.term.val,.slice cB bj cc,.int .i64 x.term.n] 63)=w9 at *
  obtain ⟨bz,cz,db⟩:=B4.out
  obtain ⟨ay,bn,bo⟩:=B5.out
  obtain ⟨ea,ej,em⟩:=B6.out
  obtain ⟨oy,qs,qy⟩:=BL.out
  clear k0 k1 k2 k3 k4 k5 ko
  clear bz cz db ay bn bo ea ej em oy qs qy
  obtain ⟨bl,hL⟩ : ∃ bl,bl=w8.heap.size:=⟨_,rfl⟩
  have nx:Hid (w8.heap.size <= bl):=h! (by omega)
  rw [<-hL] at BL og
  simp only [<-hL]
  clear hL
  obtain ⟨bz,cz,db⟩:=B4.out
  obtain ⟨ay,bn,bo⟩:=B5.out
  obtain ⟨ea,ej,em⟩:=B6.out
  obtain ⟨oy,qs,qy⟩:=BL.out
  --@B2
  go_wp2_with fail
  clear bz cz db ay bn bo ea ej em oy qs qy
  --@B
  have md:Hid (w1.heap.size <= mb/\w1.heap.size <= w9.heap.size):=h! ⟨by omega,by have:=BL.out.lt;omega⟩
  have ad:Hid (bl ≠ mb/\b6 ≠ mb /\ ¬ S1 bl /\ ¬ S1 b6 /\ ¬ S2 bl /\ ¬ S2 b6 /\ ¬ S3 bl/\(∀ q,S1 q -> q < b4)/\(∀ q,S2 q -> q < b4)/\(∀ q,S3 q -> q < b4)):=h! (by
   have e1:=fun q h=>(dx.out q (dj.out.1 q h)).2
   have e2:=fun q h=>(dx.out q (dj.out.2.1 q h)).2
   have e3:=fun q h=>(dx.out q (dj.out.2.2 q h)).2
   exact ⟨by omega,by omega,fun h=>by have:=e1 _ h;omega,fun h=>by have:=e1 _ h;omega,fun h=>by have:=e2 _ h;omega,fun h=>by have:=e2 _ h;omega,fun h=>by have:=e3 _ h;omega,e1,e2,e3⟩)
  go_loopw [61] (fun kv wr => ∃ k:Nat,k <= npx/\kv = .int .i64 k/\fV wr S1 (.slice apx npx cpx) (gP (idP rn) x.phis k)/\IMap wr mb (encT (fK np (pre ++ fW (x.phis.take k))))/\Off (fun q=>q=mb \/ S1 q) w9 wr) (fun kv _=>npx - (intOf kv).toNat)
  case atStart=>exact ⟨0,aH _,rfl,by rw [gS];exact H1.out.now,by rw [show pre ++ fW (x.phis.take 0)=pre from bY _];exact HI.out,Off.refl _ _⟩
  obtain ⟨k,hk,rfl,ba,hI,ho⟩:=hrel
  have ag:=h! ba
  have dn:=h! hI
  have bx:=h! ho
  clear ba hI ho
  have kf:Hid (Box wr bl #[.slice apx npx cpx,.slice df az bw,.int .i64 x.term.op,.int .i64 x.term.val,.slice cB bj cc,.int .i64 x.term.n]):=h! (BL.out.off bx.out (fun h=>h.elim ad.out.1 ad.out.2.2.1))
  have qv:Hid (Box wr b6 #[.map (some mb)]):=h! (B6.out.off bx.out (fun h=>h.elim ad.out.2.1 ad.out.2.2.2.1))
  by_cases hlt2:k < npx
  ·obtain ⟨p,hp⟩ : ∃ p,x.phis[k]? = some p:=⟨_,aB (by rw [<-cx.out];exact hlt2)⟩
   obtain ⟨g1,hn,af,av,cf,cv,Sv,hv,aw,ct,ic,bb, -, -, -, -⟩:=fV.vals ag.out (j:=k) (p:=p) (by rw [iB];exact hp)
   rw [fD, <-cx.out] at hv
   injection hv with e1 e2 e3
   subst e1
   subst e3
   obtain ⟨an,aj,ak⟩:=aC2 ip.out hp
   rw [<-ir.out] at ak
   obtain ⟨T,hT⟩ : ∃ T,T=fK np (pre ++ fW (x.phis.take k)):=⟨_,rfl⟩
   rw [<-hT] at an aj ak dn
   obtain ⟨tn,gB⟩ : ∃ tn,tn=T.length:=⟨_,rfl⟩
   rw [<-gB] at aj ak
   have ds:=h! an
   have eh:=h! aj
   have fj:=h! ak
   have pk:=h! gB
   have sk:=h! hT
   have HP:=h! hp
   have lq:=h! ic.c0
   have dd:=h! bb
   have ky:=h! ct
   have tr:g1 < b4:=ad.out.2.2.2.2.2.2.2.1 g1 ct
   clear an aj ak gB hT hp ic bb ct e2
   have ft:Hid (¬ Foot.one mb g1):=h! (fun h=>by have e:g1=mb:=h;omega)
   --@C1
   go_upto_region 19 with (fail)
   --@C2
   refine qA 13 10 (fun q=>q=mb) (.int .i64 (tn:Int)) (fun W=>IMap W mb (encT (T ++ [(p.id,(tn:Int))]))/\Off (Foot.one mb) wr W) (fun _ _=>False) (by kernel_rfl) (by kernel_rfl) (by omega) (fun W W' h hb=>⟨h.1.later hb,h.2.trans (Off.of_below hb _)⟩) (fun ch a' w' _ hz=>hz.elim) ?_
   --@C5
   simp only [aP,aU,aS,aX]
   --@C6
   iterate 10 ((refine kW.val (v' := ?_) (by omega) rfl (fun wg hbg => ?_) ?_);(rotate_left);(focus ((have en:Off (Foot.one mb) wr wg:=hbg.elim (fun h=>Off.of_below h _) (fun h=>h.2));(obtain ⟨lL,cL,fL⟩:=kf.out.off en (fun h=>ad.out.1 h));(have m0:=(en.cellA (p:=⟨g1,k * 4,none⟩) aw ft.out).trans lq.out);clear en hbg;first | (go_simp;done) | (go_simp;with_reducible rfl)));(simp only [Act.put,aA,aE,aF]))
   have ng:∀ (args:Array Value) (w:World),(callFunc 73 args).run Tryz.prog w = .ok (.enter 73 args) w:=pR
   --@C3
   refine kW.call (f := ?_) (args := ?_) (by omega) rfl (fun wg => ?_) (fun wg hbg => ?_) ?_
   rotate_left 2
   focus (first | (go_simp;done) | (go_simp;refine And.intro ?_ ?_ <;> with_reducible rfl) | (go_simp;with_reducible rfl))
   ·refine (aC9 (qv.out.later hbg) (dn.out.later hbg) ds.out ad.out.2.1).mono ?_
    rintro e w2 ⟨rfl,h1,h2⟩
    rw [<-pk.out] at h1 ⊢
    exact .inl ⟨rfl,h1,(Off.of_below hbg _).trans h2.off⟩
   simp only [Act.put,aA,aE,aF]
   clear ng
   iterate 2 ((refine kW.val (v' := ?_) (by omega) rfl (fun wg hbg => ?_) ?_);(rotate_left);(focus ((have en:Off (Foot.one mb) wr wg:=hbg.elim (fun h=>Off.of_below h _) (fun h=>h.2));(obtain ⟨lL,cL,fL⟩:=kf.out.off en (fun h=>ad.out.1 h));(have m0:=(en.cellA (p:=⟨g1,k * 4,none⟩) aw ft.out).trans lq.out);clear en hbg;first | (go_simp;done) | (go_simp;with_reducible rfl)));(simp only [Act.put,aA,aE,aF]))
   --@C4
   rintro bs ⟨jc,dq⟩
   have it:¬ Foot.one mb g1:=fun h=>by have e:g1=mb:=h;omega
   have m10:=(dq.cellA (p:=⟨g1,k * 4,none⟩) aw it).trans lq.out
   have fz10:∀ o,bs.frozen? ⟨g1,o,none⟩=false:=fun o=>(dq.frozenA (p:=⟨g1,o,none⟩) aw it).trans (dd.out o)
   have dm:Hid (fV (bs.setCell ⟨g1,k * 4,none⟩ (.int .i64 (tn:Int))) S1 (.slice (some ⟨g1,0,none⟩) npx cpx) (gP (idP rn) x.phis (k+1))):=h! (by
    have h9:=fV.ident (ag.out.off OPhi.nice dq (fun q h1 h2=>by cases h2;have:=ad.out.2.2.2.2.2.2.2.1 _ h1;omega)) (j:=k) (p:=p) (by rw [iB];exact HP.out) (g:=g1) (cap:=cpx) (by rw [fD, <-cx.out]) (y:=(tn:Int)) (by rw [<-fj.out];exact gk.out _)
    rw [show ({ p with id:=(tn:Int) }:PhiD)=idP rn p by unfold idP;rw [fj.out],hJ HP.out] at h9
    exact h9)
   have kj:Hid (IMap (bs.setCell ⟨g1,k * 4,none⟩ (.int .i64 (tn:Int))) mb (encT (fK np (pre ++ fW (x.phis.take (k+1)))))):=h! (by
    rw [eh.out]
    exact jc.off (Off.set bs ⟨g1,k * 4,none⟩ _) (fun h=>by have e:mb=g1:=h;omega))
   have dl:Hid (Off (fun q=>q=mb \/ S1 q) w9 (bs.setCell ⟨g1,k * 4,none⟩ (.int .i64 (tn:Int)))):=h! ((bx.out.trans (dq.mono fun q _ hq=>.inl hq)).trans ((Off.set bs ⟨g1,k * 4,none⟩ _).mono fun q _ hq=>.inr (by have e:q=g1:=hq;rw [e];exact ky.out)))
   clear jc dq lq dd dn ag kf qv
   go_wp2
   go_roundw
   case rel=>exact ⟨k+1,hlt2,by go_num,dm.out,kj.out,dl.out⟩
   simp [intOf];omega
  obtain rfl:npx=k:=by omega
  have rh:Hid (fV wr S1 (.slice apx npx cpx) (x.phis.map (idP rn))):=h! (by have h9:=ag.out;rw [cx.out,iE, <-cx.out] at h9;exact h9)
  have jt:Hid (IMap wr mb (encT (fK np (pre ++ fW x.phis)))):=h! (by have h9:=dn.out;rw [aJ (by rw [<-cx.out];exact aC _)] at h9;exact h9)
  have so:Hid (gX wr S2 (.slice df az bw) x.code):=h! (H2.out.now.off OInstr.nice bx.out (fun q h1 h2=>h2.elim (fun e=>by have:=ad.out.2.2.2.2.2.2.2.2.1 q h1;omega) (fun h=>fs.out.1 q h h1)))
  clear ag dn
  --@C
  generalize wr=wa at *
  obtain ⟨qp,nk,mq⟩:=kf.out
  go_wp2_with fail
  clear qp nk mq
  go_loopw [81] (fun kv wr => ∃ k:Nat,k <= az/\kv = .int .i64 k/\gX wr S2 (.slice df az bw) (gP (idX rn) x.code k)/\IMap wr mb (encT (fK np ((pre ++ fW x.phis) ++ fO (x.code.take k))))/\Off (fun q=>q=mb \/ S2 q) wa wr) (fun kv _=>az - (intOf kv).toNat)
  case atStart=>exact ⟨0,aH _,rfl,by rw [gS];exact so.out,by rw [show (pre ++ fW x.phis) ++ fO (x.code.take 0)=pre ++ fW x.phis from bY _];exact jt.out,Off.refl _ _⟩
  obtain ⟨k,hk,rfl,ba,hI,ho⟩:=hrel
  have ag:=h! ba
  have dn:=h! hI
  have fi:=h! ho
  clear ba hI ho
  have hM:Hid (Box wr bl #[.slice apx npx cpx,.slice df az bw,.int .i64 x.term.op,.int .i64 x.term.val,.slice cB bj cc,.int .i64 x.term.n]):=h! (kf.out.off fi.out (fun h=>h.elim ad.out.1 ad.out.2.2.2.2.1))
  have qk:Hid (Box wr b6 #[.map (some mb)]):=h! (qv.out.off fi.out (fun h=>h.elim ad.out.2.1 ad.out.2.2.2.2.2.1))
  by_cases hlt2:k < az
  ·obtain ⟨y,hy⟩ : ∃ y,x.code[k]? = some y:=⟨_,aB (by rw [<-dg.out];exact hlt2)⟩
   obtain ⟨g1,hn,aa,ca,Sa,hv,aw,ct,ls,bb, -, -, -, -⟩:=gX.open ag.out (j:=k) (y:=y) (by rw [iB];exact hy)
   rw [fD, <-dg.out] at hv
   injection hv with e1 e2 e3
   subst e1
   subst e3
   have m1:=ls.c1
   have tc:=h! m1
   have dd:=h! bb
   have ky:=h! ct
   have HY:=h! hy
   have HY64:=h! ls.id64
   have tr:g1 < b4:=ad.out.2.2.2.2.2.2.2.2.1 g1 ct
   obtain ⟨lL,cL,fL⟩:=hM.out
   by_cases h0:0 <= y.id
   ·obtain ⟨an,aj,ak⟩:=aBJ (pre:=pre ++ fW x.phis) (post:=post) (by have h9:=ip.out;rw [<-List.append_assoc] at h9;exact h9) hy h0
    have nw:=ir.out
    rw [<-List.append_assoc] at nw
    rw [<-nw] at ak
    obtain ⟨T,hT⟩ : ∃ T,T=fK np (pre ++ fW x.phis ++ fO (x.code.take k)):=⟨_,rfl⟩
    rw [<-hT] at an aj ak dn
    obtain ⟨tn,gB⟩ : ∃ tn,tn=T.length:=⟨_,rfl⟩
    rw [<-gB] at aj ak
    have ds:=h! an
    have eh:=h! aj
    have fj:=h! ak
    have pk:=h! gB
    have mr:Hid (({ y with id:=(tn:Int) }:InstrD)=idX rn y):=h! (by unfold idX;rw [if_pos h0,ak])
    have vm:decide (0 <= y.id)=true:=by simpa using h0
    have cm:Hid (Calls Tryz.prog 73 #[.int .i64 y.id,.pointer (some ⟨b6,0,none⟩)] wr fun e w'=>e = .returned (.int .i64 (tn:Int))/\IMap w' mb (encT (T ++ [(y.id,(tn:Int))]))/\Turn [mb] wr w'):=h! (by rw [pk.out];exact aC9 qk.out dn.out ds.out ad.out.2.1)
    have it:¬ Foot.one mb g1:=fun h=>by have e:g1=mb:=h;omega
    have ft:=h! it
    have ng:∀ (args:Array Value) (w:World),(callFunc 73 args).run Tryz.prog w = .ok (.enter 73 args) w:=pR
    clear h0 hy ls bb ct e2 an aj ak gB hT nw it
    go_wp2_with (go_at_fn 73;refine cm.out.mono ?_;rintro e ci ⟨rfl,kb,jy⟩;have pg:=h! kb;have ff:=h! jy.off;have tz:=(ff.out.cellA (p:=⟨g1,k * 4+1,none⟩) aw ft.out).trans tc.out;have pj:∀ o,ci.frozen? ⟨g1,o,none⟩=false:=fun o=>(ff.out.frozenA (p:=⟨g1,o,none⟩) aw ft.out).trans (dd.out o);clear kb jy lL cL fL m1)
    clear ng
    have dm:Hid (gX (ci.setCell ⟨g1,k * 4+1,none⟩ (.int .i64 (tn:Int))) S2 (.slice (some ⟨g1,0,none⟩) az bw) (gP (idX rn) x.code (k+1))):=h! (by
     have h9:=gX.ident (ag.out.off OInstr.nice ff.out (fun q h1 h2=>by cases h2;have:=ad.out.2.2.2.2.2.2.2.2.1 _ h1;omega)) (j:=k) (p:=y) (by rw [iB];exact HY.out) (g:=g1) (cap:=bw) (by rw [fD, <-dg.out]) (y:=(tn:Int)) (by rw [<-fj.out];exact gk.out _)
     rw [mr.out,hJ HY.out] at h9
     exact h9)
    have kj:Hid (IMap (ci.setCell ⟨g1,k * 4+1,none⟩ (.int .i64 (tn:Int))) mb (encT (fK np ((pre ++ fW x.phis) ++ fO (x.code.take (k+1)))))):=h! (by
     rw [eh.out]
     exact pg.out.off (Off.set ci ⟨g1,k * 4+1,none⟩ _) (fun h=>by have e:mb=g1:=h;omega))
    have dl:Hid (Off (fun q=>q=mb \/ S2 q) wa (ci.setCell ⟨g1,k * 4+1,none⟩ (.int .i64 (tn:Int)))):=h! ((fi.out.trans (ff.out.mono fun q _ hq=>.inl hq)).trans ((Off.set ci ⟨g1,k * 4+1,none⟩ _).mono fun q _ hq=>.inr (by have e:q=g1:=hq;rw [e];exact ky.out)))
    clear tz pj
    go_roundw
    case rel=>exact ⟨k+1,hlt2,by go_num,dm.out,kj.out,dl.out⟩
    simp [intOf];omega
   have js:Hid (idX rn y=y):=h! (by unfold idX;rw [if_neg h0])
   have vm:decide (0 <= y.id)=false:=by simpa using h0
   have dm:Hid (gX wr S2 (.slice (some ⟨g1,0,none⟩) az bw) (gP (idX rn) x.code (k+1))):=h! (by rw [yE HY.out js.out];exact ag.out)
   have kj:Hid (IMap wr mb (encT (fK np ((pre ++ fW x.phis) ++ fO (x.code.take (k+1)))))):=h! (by rw [aBK HY.out h0];exact dn.out)
   clear h0 hy ls bb ct e2
   go_wp2
   go_roundw
   case rel=>exact ⟨k+1,hlt2,by go_num,dm.out,kj.out,fi.out⟩
   simp [intOf];omega
  obtain rfl:az=k:=by omega
  have ra:Hid (gX wr S2 (.slice df az bw) (x.code.map (idX rn))):=h! (by have h9:=ag.out;rw [dg.out,iE, <-dg.out] at h9;exact h9)
  have ik:Hid (IMap wr mb (encT (fK np ((pre ++ fW x.phis) ++ fO x.code)))):=h! (by have h9:=dn.out;rw [aJ (by rw [<-dg.out];exact aC _)] at h9;exact h9)
  have sf:Hid (fV wr S1 (.slice apx npx cpx) (x.phis.map (idP rn))):=h! (rh.out.off OPhi.nice fi.out (fun q h1 h2=>h2.elim (fun e=>by have:=ad.out.2.2.2.2.2.2.2.1 q h1;omega) (fun h=>fs.out.1 q h1 h)))
  have vk:Hid (eR wr S3 (.slice cB bj cc) x.term.to):=h! ((H3.out.now.off bx.out (fun q h1 h2=>h2.elim (fun e=>by have:=ad.out.2.2.2.2.2.2.2.2.2 q h1;omega) (fun h=>fs.out.2.1 q h h1))).off fi.out (fun q h1 h2=>h2.elim (fun e=>by have:=ad.out.2.2.2.2.2.2.2.2.2 q h1;omega) (fun h=>fs.out.2.2 q h h1)))
  have gg:Hid (OldK w1 wr):=h! ((ae.out.now.off bx.out (fun q h=>h.elim (fun e=>by rw [e];exact md.out.1) (fun h=>(dx.out q (dj.out.1 q h)).1)) md.out.2).off fi.out (fun q h=>h.elim (fun e=>by rw [e];exact md.out.1) (fun h=>(dx.out q (dj.out.2.1 q h)).1)) (bA md.out.2 bx.out.size))
  clear ag dn jt rh so
  --@D
  generalize wr=wb at *
  obtain ⟨jo,kw,jj⟩:=hM.out
  go_wp2_with fail
  clear jo kw jj
  have hz9b:w9.heap.size <= wb.heap.size:=bA bx.out.size fi.out.size
  have hz9:bl < w9.heap.size:=BL.out.lt
  go_loopw [107] (fun kv wr => ∃ k:Nat,k <= bj/\kv = .int .i64 k/\eR wr S3 (.slice cB bj cc) (gP (plO O) x.term.to k)/\Off S3 wb wr) (fun kv _=>bj - (intOf kv).toNat)
  case atStart=>exact ⟨0,aH _,rfl,by rw [gS];exact vk.out,Off.refl _ _⟩
  obtain ⟨k,hk,rfl,ba,ho⟩:=hrel
  have ag:=h! ba
  have fB:=h! ho
  clear ba ho
  have ah:Hid (OldK w1 wr):=h! (gg.out.off fB.out (fun q h=>(dx.out q (dj.out.2.2 q h)).1) (by omega))
  have cj:Hid (Box wr bl #[.slice apx npx cpx,.slice df az bw,.int .i64 x.term.op,.int .i64 x.term.val,.slice cB bj cc,.int .i64 x.term.n]):=h! (hM.out.off fB.out ad.out.2.2.2.2.2.2.1)
  have dk:=h! (ah.out.box li.out)
  by_cases hlt2:k < bj
  ·obtain ⟨q0,ev⟩ : ∃ y,x.term.to[k]? = some y:=⟨_,aB (by rw [<-da.out];exact hlt2)⟩
   have jm:=tb.out q0 (aG ev)
   obtain ⟨qn,rfl⟩ : ∃ qn:Nat,q0=qn:=⟨q0.toNat,by omega⟩
   have qr:qn < nb:=by have:=ef.out;omega
   have ih:((qn:Int).toNat) ∈ O:=se.out _ (by have:=ef.out;omega)
   obtain ⟨g1,hn,hv,ct,aw,ai,bb, -⟩:=ag.out.addr (i:=k) (x:=(qn:Int)) (by rw [iB];exact ev)
   rw [fD, <-da.out] at hv
   injection hv with e1 e2 e3
   subst e1
   subst e3
   have dt:=(ah.out.cell (o:=lo+qn) ry).trans (sr.out (qn:Int) (by simpa using qr) ih)
   have dw:=h! dt
   have dy:=h! ai
   have dd:=h! bb
   have ky:=h! ct
   have ll:=h! ev
   have gp:=h! (gd.out (qn:Int) ih)
   have fk:lb < wr.heap.size:=by have:=fB.out.size;omega
   have am:Hid (fN wr wr):=h! (Below.refl _ _)
   clear bb ct e2 ev jm dt
   obtain ⟨cl,ck,cq⟩:=cj.out
   obtain ⟨di,de,cF⟩:=dk.out
   go_upto_region 31 with (fail)
   clear ai
   refine wp_region_grow 12 (fun _=>.plain) (by kernel_rfl) (by kernel_rfl) ?_ (fun ν => ?_)
   ·exact fun _=>trivial
   simp only [aP,aU,aS,aX]
   iterate 12 (refine Grow.val (v := ?_) rfl rfl (fun wg hbg hdg => ?_) ?_;rotate_left;(focus ((obtain ⟨re,si,rf⟩:=cj.out.later hbg);(obtain ⟨lg1,cg1,fg1⟩:=dk.out.later hbg);(have zp:=(hbg.cell (p:=⟨lb,lo+qn,none⟩) fk).trans dw.out);clear hbg hdg;first | (go_simp;done) | (go_simp;with_reducible rfl)));simp only [Act.put,aA,aE,aF])
   intro wg hb hf hh
   clear hh
   clear cl ck cq di de cF
   replace cj:=h! (cj.out.later hb)
   replace dk:=h! (dk.out.later hb)
   replace am:=h! (am.out.later hb)
   obtain ⟨cl,ck,cq⟩:=cj.out
   obtain ⟨di,de,cF⟩:=dk.out
   clear hf
   have gz:=(am.out.cell (p:=⟨g1,k,none⟩) aw).trans dy.out
   have hE:∀ o,wg.frozen? ⟨g1,o,none⟩=false:=fun o=>(am.out.frozen (p:=⟨g1,o,none⟩) aw).trans (dd.out o)
   have dm:Hid (eR (wg.setCell ⟨g1,k,none⟩ (.int .i64 (plO O (qn:Int)))) S3 (.slice (some ⟨g1,0,none⟩) bj cc) (gP (plO O) x.term.to (k+1))):=h! (by
    have h9:=eR.set (ag.out.off (Off.of_below am.out Foot.none) (fun _ _ h=>h)) (g:=g1) (cap:=cc) (by rw [fD, <-da.out]) (i:=k) (by rw [fD, <-da.out];exact hlt2) gp.out
    rw [hJ ll.out] at h9
    exact h9)
   have dl:Hid (Off S3 wb (wg.setCell ⟨g1,k,none⟩ (.int .i64 (plO O (qn:Int))))):=h! ((fB.out.trans (Off.of_below am.out _)).trans ((Off.set wg ⟨g1,k,none⟩ _).mono fun z _ hz=>by have h9:z=g1:=hz;rw [h9];exact ky.out))
   clear am ag dy
   go_wp2
   go_roundw
   case rel=>exact ⟨k+1,hlt2,by go_num,dm.out,dl.out⟩
   simp [intOf];omega
  obtain rfl:bj=k:=by omega
  have rq:Hid (eR wr S3 (.slice cB bj cc) (x.term.to.map (plO O))):=h! (by have h9:=ag.out;rw [da.out,iE, <-da.out] at h9;exact h9)
  clear ag
  --@E
  generalize wr=wc at *
  have cy:Hid (Off (fun q=>q=mb \/ F b q) w9 wc):=h! (((bx.out.mono fun q _ h=>h.imp id (dj.out.1 q)).trans (fi.out.mono fun q _ h=>h.imp id (dj.out.2.1 q))).trans (fB.out.mono fun q _ h=>.inr (dj.out.2.2 q h)))
  have rc:Hid (OBlock wc (F b) [.slice apx npx cpx,.slice df az bw,.int .i64 x.term.op,.int .i64 x.term.val,.slice cB bj cc,.int .i64 x.term.n] (idB rn O x)):=h! (by
   rw [<-vd.out,aGA]
   refine pe.out wc _ _ _ (sf.out.off OPhi.nice fB.out (fun q h1 h2=>fs.out.2.1 q h1 h2)) (ra.out.off OInstr.nice fB.out (fun q h1 h2=>fs.out.2.2 q h1 h2)) rq.out ?_
   have:=cy.out.size
   have:=nx.out
   omega)
  have hC:Hid (Holds [] w1.heap.size wc (F b) (fun W=>OBlock W (F b) [.slice apx npx cpx,.slice df az bw,.int .i64 x.term.op,.int .i64 x.term.val,.slice cB bj cc,.int .i64 x.term.n] (idB rn O x))):=h! (kM OBlock.nice rc.out (fun k hk=>(dx.out k hk).1))
  have qc:Hid (∀ q,(q=mb \/ F b q) -> ¬ SO q/\q ≠ b4+1/\q ≠ bl/\w1.heap.size <= q):=h! (fun q hq=>by
   rcases hq with rfl | hq
   ·exact ⟨fun h=>gr.out.free _ h (by simp),by omega,by omega,by omega⟩
   have h1:=dx.out q hq
   refine ⟨fun h => ?_,by omega,by omega,h1.1⟩
   rcases hU.out q h with ⟨d,hd,h⟩ | h
   ·exact ta.out q hq (.inr (.inr ⟨d,hd,h⟩))
   omega)
  have hV:=h! (eS _ _ _ lj.out)
  have pb:Hid (((O.take i).map fun b=>idB rn O (kX f b)).length=i):=h! (by rw [bI,aV];have:=dl.out;omega)
  have nt:Hid (Box wc (b4+1) #[.slice bh np bi,.int .i64 ar,.int .i64 ce,.slice ao i co]):=h! (B5.out.off cy.out (fun h=>(qc.out _ h).2.1 rfl))
  have jn:Hid (Holds [] w1.heap.size wc SO (fun W=>eX W SO (.slice ao i co) ((O.take i).map fun b=>idB rn O (kX f b)))):=h! ((gr.out.off cy.out (fun q h1 h2=>(qc.out q h2).1 h1)).less (by simp))
  have te:Hid ((F b).off SO):=h! (fun q h1 h2=>(qc.out q (.inr h1)).1 h2)
  have sy:Hid (IMap wc mb (encT (fK np (idsO f (O.take (i+1)))))):=h! (by
   rw [vG lj.out,oz.out,sQ, <-pt.out, <-List.append_assoc]
   exact ik.out.off fB.out (fun h=>by have:=ad.out.2.2.2.2.2.2.2.2.2 _ h;omega))
  have ji:Hid (Off (fun k=>k=mb \/ k=b4+1 \/ ∃ d,d ∈ O.take (i+1)/\F d k) w7 wc):=h! ((Off.mono cn.out fun q _ h=>by
   rcases h with h | h | ⟨d,hd,h⟩
   ·exact .inl h
   ·exact .inr (.inl h)
   ·exact .inr (.inr ⟨d,by rw [hV.out];simp [hd],h⟩)).trans (cy.out.mono fun q _ h=>by
   rcases h with h | h
   ·exact .inl h
   exact .inr (.inr ⟨b,by rw [hV.out];simp,h⟩)))
  clear sf ra rq rc gg ik gr
  obtain ⟨oh,oi,pd⟩:=nt.out
  obtain ⟨cl,ck,cq⟩:=cj.out
  have hlc1:w1.heap.size <= wc.heap.size:=by have:=cy.out.size;have:=Off.size cn.out;omega
  have ks:∀ b ∈ ([] : List Nat),b < w1.heap.size:=by intro b hb;cases hb
  have rg:∀ o:Obj,w1.heap.size <= (wc.alloc o).heap.size:=fun o=>by rw [World.size_alloc];omega
  have ig:i+1 <= 17592186044416:=by omega
  have ix:(i+1) * 96 <= 140737488355328:=by omega
  have rp:∀ u ∈ ([.slice apx npx cpx,.slice df az bw,.int .i64 x.term.op,.int .i64 x.term.val,.slice cB bj cc,.int .i64 x.term.n] : List Value),u.oneCell' = true:=by simp [Value.oneCell']
  have nn:Hid (¬ SO (b4+1)):=h! (fun h=>by
   rcases hU.out _ h with ⟨d,hd,h⟩ | h
   ·have:=br.out.1 _ (gq.out d (cJ hd) _ h);omega
   omega)
  go_upto_region 34 with (at_builtin;go_loud (refine lT OBlock.nice rfl _ _ 23 63 rfl tX rfl rfl pb.out (jn.out.alloc _) (Box.new _ _ _) rfl (hC.out.alloc _).now te.out hC.out.base ks (rg _) rp ig ix ?_);intro v2 fw SN q1 q2 q3 q4;obtain ⟨g2,c2,rfl⟩:=q4;have hG:=h! ((nt.out.alloc _).off q3 nn.out);have rd:=h! q1;have sw:=h! q2;have nl:=h! q3;clear q1 q2 q3;obtain ⟨l5,c5,f5⟩:=hG.out)
  clear l5 c5 f5 ks rg ig ix rp
  clear oh oi pd cl ck cq
  have ep:Hid (Off (Foot.one (b4+1)) fw (fw.setCell ⟨b4+1,3,none⟩ (.slice (some ⟨g2,0,none⟩) (i+1) c2))):=h! (Off.set fw ⟨b4+1,3,none⟩ _)
  have tp:Hid (Box (fw.setCell ⟨b4+1,3,none⟩ (.slice (some ⟨g2,0,none⟩) (i+1) c2)) (b4+1) #[.slice bh np bi,.int .i64 ar,.int .i64 ce,.slice (some ⟨g2,0,none⟩) (i+1) c2]):=h! (by simpa using hG.out.set 3 (.slice (some ⟨g2,0,none⟩) (i+1) c2))
  generalize fw.setCell ⟨b4+1,3,none⟩ (.slice (some ⟨g2,0,none⟩) (i+1) c2)=ei at *
  have jk:Hid (∀ q,SN q -> (∃ d,d ∈ O.take (i+1)/\F d q) \/ w7.heap.size <= q):=h! (fun q hq=>by
   rcases sw.out q hq with h | h | h
   ·exact (hU.out q h).imp (fun ⟨d,hd,h⟩=>⟨d,by rw [hV.out];simp [hd],h⟩) id
   ·exact .inl ⟨b,by rw [hV.out];simp,h⟩
   right
   rw [World.size_alloc] at h
   have:=cy.out.size
   have:=Off.size cn.out
   omega)
  have km:Hid (∀ q,SN q -> q ∉ [w.heap.size,w.heap.size+1,b4,b4+1,mb,b6]):=h! (fun q hq hm=>by
   have h8:w7.heap.size <= q \/ (w1.heap.size <= q/\q < b4):=by
    rcases jk.out q hq with ⟨d,hd,h⟩ | h
    ·exact .inr (br.out.1 _ (gq.out d (cJ hd) _ h))
    exact .inl h
   simp at hm
   omega)
  have qj:Hid (Holds [w.heap.size,w.heap.size+1,b4,b4+1,mb,b6] w1.heap.size ei SN (fun W=>eX W SN (.slice (some ⟨g2,0,none⟩) (i+1) c2) ((O.take (i+1)).map fun b=>idB rn O (kX f b)))):=h! (by
   have h9:=rd.out.off ep.out (fun q h1 h2=>km.out q h1 (by cases h2;simp))
   rw [hV.out,bD,cZ,eO,oz.out]
   exact ⟨h9.now,h9.keep,h9.lt,h9.base,km.out⟩)
  have ti:Hid (IMap ei mb (encT (fK np (idsO f (O.take (i+1)))))):=h! (((sy.out.alloc _).off nl.out (fun h=>by
   rcases hU.out _ h with ⟨d,hd,h⟩ | h
   ·have:=br.out.1 _ (gq.out d (cJ hd) _ h);omega
   omega)).off ep.out (fun h=>by have e:mb=b4+1:=h;omega))
  have my:Hid (OffF (fun k=>k=mb \/ k=b4+1 \/ ∃ d,d ∈ O.take (i+1)/\F d k) w7 ei):=h! (Off.grow (Off.grow (Off.trans ji.out (Off.alloc _ _ _)) nl.out (fun q hq=>by
   rcases hU.out q hq with ⟨d,hd,h⟩ | h
   ·exact .inl (.inr (.inr ⟨d,by rw [hV.out];simp [hd],h⟩))
   exact .inr h)) ep.out (fun q hq=>.inl (.inr (.inl hq))))
  clear rd sw nl ep hG sy ji jn hC nt cj
  go_wp2
  go_roundw
  case rel=>exact ⟨i+1,SN,some ⟨g2,0,none⟩,c2,hs,by go_num,my.out,ti.out,tp.out,qj.out,jk.out⟩
  simp [intOf];omega
 obtain rfl:no=i:=by omega
 --@F
 have he:O.take no=O:=aJ (by rw [<-dl.out];exact aC _)
 have jt:Hid (IMap w8 mb (encT (fK np (idsO f O)))):=h! (by have h9:=HI.out;rw [he] at h9;exact h9)
 obtain ⟨xs0,es⟩ : ∃ xs0,xs0=O.map fun b=>idB rn O (kX f b):=⟨_,rfl⟩
 have cd:Hid (Holds [w.heap.size,w.heap.size+1,b4,b4+1,mb,b6] w1.heap.size w8 SO (fun W=>eX W SO (.slice ao no co) xs0)):=h! (by have h9:=gr.out;rw [he, <-es] at h9;exact h9)
 have fp:Hid (no=xs0.length):=h! (by rw [es,bI,dl.out])
 have pc:=h! es
 have HQ:Hid (Holds [b4+1,b4,w.heap.size,w.heap.size+1] w1.heap.size w8 SQ (fun W=>eR W SQ (.slice bh np bi) f.params)):=h! ((th.out.off cn.out (fun k h1 h2=>(hW.out k h2).2.2 h1)).less (by simp))
 have ms:Hid (SQ.off SO):=h! (fun k h1 h2=>by
  rcases hU.out k h2 with ⟨d,hd,h⟩ | h
  ·exact br.out.2.1 k h1 (gq.out d (cJ hd) k h)
  have:=br.out.2.2 k h1;omega)
 clear HI gr he es hs hi
 have cm:Hid (Calls Tryz.prog 49 #[.pointer (some ⟨b4+1,0,none⟩),.func (.func 74) #[] #[.pointer (some ⟨b6,0,none⟩)]] w8 (MapR w8 SO (.slice ao no co) xs0 rn)):=h! (by
  have h1:=cd.out.now
  have h2:=B5.out.at 3 (v:=.slice ao no co) rfl
  have h3:=B5.out.1
  rw [fp.out] at h1 h2 ⊢
  refine mapC h2 h3 (fun hk=>cd.out.free _ hk (by simp)) h1 wQ (fun v _=>gk.out v) (fun W v hv ho => ?_)
  rw [nv.out]
  exact aFG (B6.out.off ho (fun hk=>cd.out.free _ hk (by simp))) (jt.out.off ho (fun hk=>cd.out.free _ hk (by simp))))
 go_wp2_with fail
 --@F1
 refine cm.out.mono ?_
 rintro e w9 ⟨rfl,ho,hX⟩
 obtain ⟨xs1,fc⟩ : ∃ xs1,xs1=xs0.map (mapB rn):=⟨_,rfl⟩
 rw [<-fc] at hX
 have jr:Hid (xs1=O.map fun b=>mapB rn (idB rn O (kX f b))):=h! (by rw [fc,pc.out,cO];rfl)
 have ez:Hid (no=xs1.length):=h! (by rw [fc,bI];exact fp.out)
 have bf:=h! cd.out.base
 have ee:=h! cd.out.free
 have lj:=h! hX
 replace HW:=h! (HW.out.trans (ho.below (base:=w.heap.size) HW.out.size (fun k _ hk=>by have:=bf.out k hk;omega)))
 replace B2:=h! (B2.out.off ho (fun hk=>ee.out _ hk (by simp)))
 replace B5:=h! (B5.out.off ho (fun hk=>ee.out _ hk (by simp)))
 replace HQ:=h! (HQ.out.off ho ms.out)
 have qh:w1.heap.size <= w8.heap.size:=by omega
 have im:Hid (OldK w1 w9):=h! (ae.out.now.off ho (fun k hk=>bf.out k hk) qh)
 have mv:w1.heap.size <= w9.heap.size:=by have:=ho.size;omega
 clear ho hX fc cm cd ae jt
 obtain ⟨aq,bd,bk⟩:=B2.out
 obtain ⟨ay,bn,bo⟩:=B5.out
 go_wp2_with fail
 clear aq bd bk ay bn bo
 --@F2
 go_loopw [137] (fun iv wr => ∃ i:Nat,i <= no/\iv = .int .i64 i/\eX wr SO (.slice ao no co) (gP (tE O) xs1 i)/\Off SO w9 wr) (fun iv _=>no - (intOf iv).toNat)
 case atStart=>exact ⟨0,aH _,rfl,by rw [gS];exact lj.out,Off.refl _ _⟩
 obtain ⟨i,hi,rfl,ba,ho⟩:=hrel
 have ag:=h! ba
 have hl:=h! ho
 clear ba ho
 --@FA
 by_cases hlt2:i < no
 ·obtain ⟨x1,lz⟩ : ∃ x1,xs1[i]? = some x1:=⟨_,aB (by rw [<-ez.out];exact hlt2)⟩
  --@FD
  obtain ⟨g1,hn,hD,lx,lw,et,me,mj,S1,S2,hv,sx,ct,hg,nj,lr,mw,d1,d2,kP,n1,n2,be⟩:=eX.opened ag.out (j:=i) (x:=x1) (by rw [iB];exact lz)
  rw [fD, <-ez.out] at hv
  injection hv with e1 e2 e3
  subst e1
  subst e3
  have k0:=hg.c0
  have k1:=hg.c1
  have k2:=hg.c2
  have k3:=hg.c3
  have k4:=hg.c4
  have k5:=hg.c5
  --@FB
  obtain ⟨cr,fa⟩ : ∃ n,n=x1.phis.length:=⟨_,rfl⟩
  obtain ⟨ma,kp⟩ : ∃ n,n=x1.code.length:=⟨_,rfl⟩
  obtain ⟨mf,kG⟩ : ∃ n,n=x1.term.to.length:=⟨_,rfl⟩
  have hpb:cr <= 17592186044416:=by obtain ⟨cs,G,F,hp⟩:=lr;rw [fa];exact hp.row.big
  rw [<-fa] at k0 lr be
  rw [<-kp] at k1 mw be
  rw [<-kG] at k4
  have ew:=h! fa
  have tk:=h! lz
  have ny:=h! lr
  have sb:=h! mw
  have fs:=h! kP
  have sz:=h! be
  have ie:=h! d1
  --@FC
  have ve:Hid (∀ p ∈ x1.phis,p.src.Nodup/\p.src.length=p.vals.length /\ ∀ q ∈ p.src,0 <= q/\q.toNat ∈ O/\q.toNat < nb):=h! (fun p hp=>by
   rw [ef.out]
   exact aE7 (g:=rn) HF.out (fun d hd=>HO.out.facts.2.2.1 d hd) se.out (by rw [<-jr.out];exact aG lz) hp)
  clear lz lr mw kP be d1 d2 n1 n2 hg ct e2 fa kp kG nj
  --@F3
  go_upto_region 39 with (fail)
  clear k0 k1 k2 k3 k4 k5
  have je:Hid (Below wr.heap.size wr (wr.alloc (.cells #[.slice hD cr et,.slice lx ma me,.int .i64 x1.term.op,.int .i64 x1.term.val,.slice lw mf mj,.int .i64 x1.term.n] 63))):=h! ((Below.refl _ _).alloc (aC _) _)
  have BM:=h! (Box.new wr #[.slice hD cr et,.slice lx ma me,.int .i64 x1.term.op,.int .i64 x1.term.val,.slice lw mf mj,.int .i64 x1.term.n] 63)
  obtain ⟨bm,oj⟩ : ∃ bm,bm=wr.heap.size:=⟨_,rfl⟩
  have vc:Hid (∀ q,S1 q -> q < bm):=h! (fun q hq=>by rw [oj];exact ny.out.lt q hq)
  rw [<-oj] at BM ⊢
  generalize wr.alloc (.cells #[.slice hD cr et,.slice lx ma me,.int .i64 x1.term.op,.int .i64 x1.term.val,.slice lw mf mj,.int .i64 x1.term.n] 63)=bs at *
  have eg:Hid (Off SO w9 bs):=h! (hl.out.trans (Off.of_below je.out _))
  have py:Hid (fV bs S1 (.slice hD cr et) x1.phis):=h! (ny.out.off OPhi.nice (Off.of_below je.out Foot.none) (fun _ _ h=>h))
  have jp:Hid (∀ (W' : World) (ps:List PhiD),Off S1 bs W' -> fV W' S1 (.slice hD cr et) ps -> eX W' SO (.slice (some ⟨g1,0,none⟩) no co) ((gP (tE O) xs1 i).set i { x1 with phis:=ps })):=h! (fun W' ps h3 h4=>sz.out W' ps x1.code ((Off.of_below je.out _).trans (h3.mono fun q _ h=>.inl h)) h4 (sb.out.off OInstr.nice ((Off.of_below je.out _).trans h3) fs.out.symm))
  have hH:Hid (OldK w1 bs):=h! (im.out.off eg.out (fun k hk=>bf.out k hk) mv)
  have hz10:w9.heap.size <= bs.heap.size:=eg.out.size
  have vb:bm < bs.heap.size:=BM.out.lt
  clear oj je ny sb sz ag hl
  obtain ⟨lM,cM,fM⟩:=BM.out
  go_wp2_with fail
  clear lM cM fM
  --@F4
  go_loopw [144] (fun kv wr => ∃ k:Nat,k <= cr/\kv = .int .i64 k/\fV wr S1 (.slice hD cr et) (gP (wR O) x1.phis k)/\Off S1 bs wr) (fun kv _=>cr - (intOf kv).toNat)
  case atStart=>exact ⟨0,aH _,rfl,by rw [gS];exact py.out,Off.refl _ _⟩
  obtain ⟨k,hk,rfl,ba,ho⟩:=hrel
  have ag:=h! ba
  have bx:=h! ho
  clear ba ho
  by_cases hlt3:k < cr
  ·obtain ⟨p,hp⟩ : ∃ p,x1.phis[k]? = some p:=⟨_,aB (by rw [<-ew.out];exact hlt3)⟩
   --@FE
   obtain ⟨g2,cap2,af,av,cf,cv,Sf,Sv,hv,jl,pq,ic,qe,lS,mz,sn,i1,i2,n1,n2,al⟩:=fV.both ag.out (j:=k) (p:=p) (by rw [iB];exact hp)
   rw [fD, <-ew.out] at hv
   injection hv with e1 e2 e3
   subst e1
   subst e3
   obtain ⟨ks,ig,ix⟩:=ve.out p (aG hp)
   obtain ⟨nf,iq⟩ : ∃ n,n=p.src.length:=⟨_,rfl⟩
   have nr:nf=p.vals.length:=by rw [iq,ig]
   have m2:=ic.c2
   have m3:=ic.c3
   have hfb:nf <= 17592186044416:=by rw [iq];exact lS.1.big
   rw [<-iq] at m2 lS al
   rw [<-nr] at m3 mz al
   have fx:=h! iq
   have eo:=h! nr
   have HP:=h! hp
   have tx:=h! ks
   have mt:=h! ix
   have sh:=h! m2
   have sq:=h! m3
   have pp:=h! lS
   have od:=h! mz
   have ly:=h! sn
   have dv:=h! (And.intro i1 i2)
   have dr:=h! (And.intro n1 n2)
   have qi:=h! al
   have ah:Hid (OldK w1 wr):=h! (hH.out.off bx.out (fun q hq=>bf.out q (ie.out q hq)) (by omega))
   have rj:Hid (Box wr bm #[.slice (some ⟨g2,0,none⟩) cr et,.slice lx ma me,.int .i64 x1.term.op,.int .i64 x1.term.val,.slice lw mf mj,.int .i64 x1.term.n]):=h! (BM.out.off bx.out (fun h=>by have:=vc.out _ h;omega))
   have hz10r:bs.heap.size <= wr.heap.size:=bx.out.size
   clear hp ks ig ix iq nr m2 m3 lS mz sn i1 i2 n1 n2 al ic qe e2 pq
   have nd:=@run_makeMap Tryz.prog
   obtain ⟨lM,cM,fM⟩:=rj.out
   --@F5
   go_upto_region 44 with (fail)
   clear nd lM cM fM
   have HI:=h! (IMap.new wr)
   have hY:Hid (Below wr.heap.size wr (wr.alloc (.map #[] 0))):=h! ((Below.refl _ _).alloc (aC _) _)
   obtain ⟨pm,hP⟩ : ∃ pm,pm=wr.heap.size:=⟨_,rfl⟩
   rw [<-hP] at HI
   simp only [<-hP]
   have hgpm:g2 < pm:=by omega
   have iG:∀ q,Sf q -> q < pm:=fun q hq=>by rw [hP];exact pp.out.lt q hq
   have kn:∀ q,Sv q -> q < pm:=fun q hq=>by rw [hP];exact od.out.lt q hq
   have gs:=h! iG
   have gw:=h! kn
   have hpw:bs.heap.size <= pm:=by omega
   have qg:=h! hP
   clear hP iG kn
   generalize wr.alloc (.map #[] 0)=ci at *
   have hlp:pm < ci.heap.size:=HI.out.lt
   have jh:Hid (eR ci Sf (.slice af nf cf) p.src):=h! (pp.out.off (Off.of_below hY.out Foot.none) (fun _ _ h=>h))
   have jf:Hid (eR ci Sv (.slice av nf cv) p.vals):=h! (od.out.off (Off.of_below hY.out Foot.none) (fun _ _ h=>h))
   have m2:=(hY.out.cell (p:=⟨g2,k * 4+2,none⟩) jl).trans sh.out
   have m3:=(hY.out.cell (p:=⟨g2,k * 4+3,none⟩) jl).trans sq.out
   have gy:Hid (OldK w1 ci):=h! (ah.out.off (Off.of_below hY.out Foot.none) (fun _ h=>h.elim) (by omega))
   have ol:=h! m2
   have qw:=h! m3
   clear sh sq pp od ah rj ag
   go_wp2_with fail
   clear m2 m3
   --@F6
   go_loopw [157] (fun jv wr => ∃ j:Nat,j <= nf/\jv = .int .i64 j/\eR wr Sf (.slice af nf cf) (gP (plO O) p.src j)/\IMap wr pm (encT ((mJ O p).take j))/\Off (fun q=>q=pm \/ Sf q) ci wr) (fun jv _=>nf - (intOf jv).toNat)
   case atStart=>exact ⟨0,aH _,rfl,by rw [gS];exact jh.out,HI.out,Off.refl _ _⟩
   obtain ⟨j,hj,rfl,ba,hI,ho⟩:=hrel
   have ag:=h! ba
   have lk:=h! hI
   have fz:=h! ho
   clear ba hI ho
   have hlr:ci.heap.size <= wr.heap.size:=fz.out.size
   have ah:Hid (OldK w1 wr):=h! (gy.out.off fz.out (fun q h=>h.elim (fun e=>by omega) (fun h=>bf.out q (ie.out q (dv.out.1 q h)))) (by omega))
   have eb:Hid (eR wr Sv (.slice av nf cv) p.vals):=h! (jf.out.off fz.out (fun q h1 h2=>h2.elim (fun e=>by have:=gw.out q h1;omega) (fun h=>ly.out q h h1)))
   have ft:Hid (¬ (g2=pm \/ Sf g2)):=h! (fun h=>h.elim (fun e=>by omega) dr.out.1)
   have fl:g2 < wr.heap.size:=by omega
   have m2:=(fz.out.cellA (p:=⟨g2,k * 4+2,none⟩) (by show g2 < _;omega) ft.out).trans ol.out
   have m3:=(fz.out.cellA (p:=⟨g2,k * 4+3,none⟩) (by show g2 < _;omega) ft.out).trans qw.out
   have fo:=h! m2
   have cw:=h! m3
   by_cases hlt4:j < nf
   ·obtain ⟨q0,ev⟩ : ∃ y,p.src[j]? = some y:=⟨_,aB (by rw [<-fx.out];exact hlt4)⟩
    obtain ⟨v0,qq⟩ : ∃ y,p.vals[j]? = some y:=⟨_,aB (by rw [<-eo.out];exact hlt4)⟩
    have jm:=mt.out q0 (aG ev)
    obtain ⟨qn,rfl⟩ : ∃ qn:Nat,q0=qn:=⟨q0.toNat,by omega⟩
    have qr:qn < nb:=by have:=jm.2.2;omega
    have ih:=jm.2.1
    obtain ⟨gf,px,hv,bc,hF,ai,io, -⟩:=ag.out.addr (i:=j) (x:=(qn:Int)) (by rw [iB];exact ev)
    rw [fD, <-fx.out] at hv
    injection hv with e1 e2 e3
    subst e1
    subst e3
    obtain ⟨gv,ot,hv,cg,ex,bq, -, -⟩:=eb.out.addr (i:=j) (x:=v0) qq
    rw [<-eo.out] at hv
    injection hv with e4 e5 e6
    subst e4
    subst e6
    have dt:=(ah.out.cell (o:=lo+qn) ry).trans (sr.out (qn:Int) (by simpa using qr) ih)
    have dw:=h! dt
    have dy:=h! ai
    have fg:=h! bq
    have pi:=h! io
    have mx:=h! bc
    have kt:=h! cg
    have ll:=h! ev
    have tq:=h! qq
    have gp:=h! (gd.out (qn:Int) ih)
    have fk:lb < wr.heap.size:=by omega
    have am:Hid (fN wr wr):=h! (Below.refl _ _)
    have dk:=h! (ah.out.box li.out)
    have nG:gv ≠ gf:=fun e=>ly.out gf bc (e ▸ cg)
    have hgfp:gf < pm:=gs.out gf bc
    have hgvp:gv < pm:=gw.out gv cg
    have pz:g2 ≠ gf:=fun e=>dr.out.1 (by rw [e];exact bc)
    have qf:lb ≠ gf:=fun e=>by have:=bf.out gf (ie.out gf (dv.out.1 gf bc));omega
    have ql:bg ≠ gf:=fun e=>by have:=bf.out gf (ie.out gf (dv.out.1 gf bc));omega
    clear io bc cg e2 e5 ev qq jm dt m2 m3 bq
    obtain ⟨di,de,cF⟩:=dk.out
    go_upto_region 47 with (fail)
    clear ai
    refine wp_region_grow 13 (fun _=>.plain) (by kernel_rfl) (by kernel_rfl) ?_ (fun ν => ?_)
    ·exact fun _=>trivial
    simp only [aP,aU,aS,aX]
    iterate 13 (refine Grow.val (v := ?_) rfl rfl (fun wg hbg hdg => ?_) ?_;rotate_left;(focus ((obtain ⟨re,si,rf⟩:=dk.out.later hbg);(have zp:=(hbg.cell (p:=⟨lb,lo+qn,none⟩) fk).trans dw.out;have z2:=(hbg.cell (p:=⟨g2,k * 4+2,none⟩) fl).trans fo.out);clear hbg hdg;first | (go_simp;done) | (go_simp;with_reducible rfl)));simp only [Act.put,aA,aE,aF])
    intro wg hb hf hh
    clear hh
    clear di de cF
    replace dk:=h! (dk.out.later hb)
    replace am:=h! (am.out.later hb)
    obtain ⟨di,de,cF⟩:=dk.out
    clear hf
    have gz:=(am.out.cell (p:=⟨gf,j,none⟩) hF).trans dy.out
    have hE:∀ o,wg.frozen? ⟨gf,o,none⟩=false:=fun o=>(am.out.frozen (p:=⟨gf,o,none⟩) hF).trans (pi.out o)
    go_upto_region 48 with (fail)
    clear gz hE
    clear di de cF
    have dm:Hid (eR (wg.setCell ⟨gf,j,none⟩ (.int .i64 (plO O (qn:Int)))) Sf (.slice (some ⟨gf,0,none⟩) nf cf) (gP (plO O) p.src (j+1))):=h! (by
     have h9:=eR.set (ag.out.off (Off.of_below am.out Foot.none) (fun _ _ h=>h)) (g:=gf) (cap:=cf) (by rw [fD, <-fx.out]) (i:=j) (by rw [fD, <-fx.out];exact hlt4) gp.out
     rw [hJ ll.out] at h9
     exact h9)
    have gi:Hid (Off (Foot.one gf) wr (wg.setCell ⟨gf,j,none⟩ (.int .i64 (plO O (qn:Int))))):=h! ((Off.of_below am.out _).trans (Off.set wg ⟨gf,j,none⟩ _))
    generalize wg.setCell ⟨gf,j,none⟩ (.int .i64 (plO O (qn:Int)))=ek at *
    clear am ag dy
    have jd:Hid (Box ek bg #[.slice ap np cp,.int .i64 ar,.int .i64 ce,.slice ab nb cb,pv,.slice (some ⟨ob,oo,none⟩) no oc,.slice (some ⟨lb,lo,none⟩) nb lc]):=h! ((ah.out.box li.out).off gi.out ql)
    have ml:Hid (ek.cell? ⟨lb,lo+qn,none⟩=some (.int .i64 (plO O (qn:Int)))):=h! ((gi.out.cellA (p:=⟨lb,lo+qn,none⟩) fk qf).trans dw.out)
    have gl:=h! ((gi.out.cellA (p:=⟨g2,k * 4+3,none⟩) fl pz).trans cw.out)
    have vl:=h! ((gi.out.cellA (p:=⟨gv,j,none⟩) ex nG).trans fg.out)
    have dj:Hid (IMap ek pm (encT ((mJ O p).take j))):=h! (lk.out.off gi.out (fun h=>by have e:pm=gf:=h;omega))
    have il:Hid (Off (fun q=>q=pm \/ Sf q) ci ek):=h! (fz.out.trans (gi.out.mono fun q _ hq=>.inr (by have e:q=gf:=hq;rw [e];exact mx.out)))
    have hs12:wr.heap.size <= ek.heap.size:=gi.out.size
    have ke:lb < ek.heap.size:=by omega
    have iw:g2 < ek.heap.size:=by omega
    have jw:gv < ek.heap.size:=by omega
    clear dk dw fo cw fg lk fz gi ah eb
    have hA:Hid (Holds [] 0 ek Sf (fun W=>eR W Sf (.slice (some ⟨gf,0,none⟩) nf cf) (gP (plO O) p.src (j+1)))):=h! (gF dm.out (fun _ _=>aH _))
    have ed:Hid (OffF (fun q=>q=pm \/ Sf q) ci ek):=il
    clear dm il
    obtain ⟨gn,hK,gx⟩:=jd.out
    refine wp_region_grow 15 (fun _=>.plain) (by kernel_rfl) (by kernel_rfl) ?_ (fun ν => ?_)
    ·exact fun _=>trivial
    simp only [aP,aU,aS,aX]
    iterate 15 (refine Grow.val (v := ?_) rfl rfl (fun wg hbg hdg => ?_) ?_;rotate_left;(focus ((obtain ⟨re,si,rf⟩:=jd.out.later hbg);(have zp:=(hbg.cell (p:=⟨lb,lo+qn,none⟩) ke).trans ml.out;have z3:=(hbg.cell (p:=⟨g2,k * 4+3,none⟩) iw).trans gl.out;have zv:=(hbg.cell (p:=⟨gv,j,none⟩) jw).trans vl.out);clear hbg hdg;first | (go_simp;done) | (go_simp;with_reducible rfl)));simp only [Act.put,aA,aE,aF])
    intro wg hb hf hh
    clear hh
    clear gn hK gx
    replace jd:=h! (jd.out.later hb)
    replace hA:=h! (hA.out.later hb)
    replace dj:=h! (dj.out.later hb)
    replace ed:=h! (ed.out.later hb)
    obtain ⟨gn,hK,gx⟩:=jd.out
    clear hf
    clear gn hK gx
    go_wp2_with (at_mapUpdate;refine fJ (q:=.i64) (b:=pm) (mm:=encT ((mJ O p).take j)) (y:=plO O (qn:Int)) rfl _ _ _ _ (.inl rfl) Tryz.underlying93 Tryz.underlying3 rfl dj.out rfl ?_;intro fw kd oe jq;have pn:=h! kd;have kx:=h! jq.off;clear kd oe jq)
    go_roundw
    case rel=>exact ⟨j+1,hlt4,by go_num,(hA.out.off kx.out (fun q h1 h2=>by cases h2;have:=gs.out _ h1;omega)).now,by rw [<-yC tx.out (fun q hq=>⟨(mt.out q hq).1,(mt.out q hq).2.1⟩) ll.out tq.out];exact pn.out,Off.trans ed.out (kx.out.mono fun q _ hq=>.inl hq)⟩
    simp [intOf];omega
   obtain rfl:nf=j:=by omega
   have rk:Hid (eR wr Sf (.slice af nf cf) (p.src.map (plO O))):=h! (by have h9:=ag.out;rw [fx.out,iE, <-fx.out] at h9;exact h9)
   have sa:Hid (IMap wr pm (encT (mJ O p))):=h! (by
    have h9:=lk.out
    rw [aJ (by unfold mJ;rw [eB,bI, <-fx.out];omega)] at h9
    exact h9)
   have nz:Hid (∀ q,In64 ((tyOf (mJ O p) q).getD 0)):=h! (fun q=>nH (fun z hz=>eb.out.2 _ (List.of_mem_zip hz).2) q)
   clear ag lk ah
   generalize wr=fw at *
   go_wp2_with fail
   refine (aBG rk.out).mono ?_
   rintro e ei ⟨rfl,hw,bO⟩
   clear m2 m3
   have qo:=h! bO
   have m2:=(bO.cellA (p:=⟨g2,k * 4+2,none⟩) fl dr.out.1).trans fo.out
   have gl:=h! ((bO.cellA (p:=⟨g2,k * 4+3,none⟩) fl dr.out.1).trans cw.out)
   have ki:Hid (eR ei Sv (.slice av nf cv) p.vals):=h! (eb.out.off bO (fun q h1 h2=>ly.out q h2 h1))
   have nL:Hid (IMap ei pm (encT (mJ O p))):=h! (sa.out.off bO (fun h=>by have:=gs.out _ h;omega))
   obtain ⟨ss,mk⟩ : ∃ ss,ss=jJ (p.src.map (plO O)):=⟨_,rfl⟩
   obtain ⟨ys,mi⟩ : ∃ ys,ys=ss.map fun q=>(tyOf (mJ O p) q).getD 0:=⟨_,rfl⟩
   rw [<-mk] at hw
   have ni:Hid (nf=ss.length):=h! (by rw [mk,(iA _).length_eq,bI];exact fx.out)
   have hZ:Hid (ys.length=p.vals.length):=h! (by rw [mi,bI, <-ni.out];exact eo.out)
   have tv:=h! mi
   have tg:Hid (({ p with src:=ss,vals:=ys }:PhiD)=wR O p):=h! (by rw [mi,mk];rfl)
   have om:=h! hw
   have hz14:fw.heap.size <= ei.heap.size:=bO.size
   clear hw bO mk mi rk sa eb fo cw
   go_wp2_with fail
   clear m2
   go_loopw [201] (fun jv wr => ∃ j:Nat,j <= nf/\jv = .int .i64 j/\eR wr Sv (.slice av nf cv) (kV ys p.vals j)/\Off Sv ei wr) (fun jv _=>nf - (intOf jv).toNat)
   case atStart=>exact ⟨0,aH _,rfl,by rw [tZ];exact ki.out,Off.refl _ _⟩
   obtain ⟨j,hj,rfl,ba,ho⟩:=hrel
   have ag:=h! ba
   have ib:=h! ho
   clear ba ho
   have hlr2:ei.heap.size <= wr.heap.size:=ib.out.size
   have mg:Hid (eR wr Sf (.slice af nf cf) ss):=h! (om.out.off ib.out (fun q h1 h2=>ly.out q h1 h2))
   by_cases hlt4:j < nf
   ·obtain ⟨s0,mn⟩ : ∃ y,ss[j]? = some y:=⟨_,aB (by rw [<-ni.out];exact hlt4)⟩
    obtain ⟨u0,rx⟩ : ∃ y,(kV ys p.vals j)[j]? = some y:=⟨_,aB (by rw [lZ hZ.out, <-eo.out];exact hlt4)⟩
    obtain ⟨gf,px,hv,bc,hF,ai, -, -⟩:=mg.out.addr (i:=j) (x:=s0) mn
    rw [<-ni.out] at hv
    injection hv with e1 e2 e3
    subst e1
    subst e3
    obtain ⟨gv,ot,hv,cg,ex,bq,jb, -⟩:=ag.out.addr (i:=j) (x:=u0) rx
    rw [lZ hZ.out, <-eo.out] at hv
    injection hv with e4 e5 e6
    subst e4
    subst e6
    obtain ⟨t,ht⟩ : ∃ t,t=(tyOf (mJ O p) s0).getD 0:=⟨_,rfl⟩
    have oq:Hid (In64 t):=h! (by rw [ht];exact nz.out s0)
    have tt:Hid (ys[j]? = some t):=h! (by rw [tv.out,aO,mn,ht];rfl)
    have vi:Hid (∀ wg,Below wr.heap.size wr wg -> (Instr.lookup 93 (.map (some pm)) (.int .i64 s0) false).run Tryz.prog wg = .ok (.int .i64 t) wg):=h! (fun wg hbg=>by
     rw [((nL.out.off ib.out (fun h=>by have:=gw.out _ h;omega)).later hbg).lookup0 Tryz.underlying93 Tryz.underlying3 (fY _) s0,gR,ht]
     cases tyOf (mJ O p) s0 <;> rfl)
    have cw:=h! ((ib.out.cellA (p:=⟨g2,k * 4+3,none⟩) (by show g2 < _;omega) dr.out.2).trans gl.out)
    have fg:=h! bq
    have nh:=h! jb
    have kt:=h! cg
    have pr:g2 < wr.heap.size:=by omega
    have am:Hid (fN wr wr):=h! (Below.refl _ _)
    clear jb bc cg e2 e5 mn rx bq ht
    go_upto_region 54 with (fail)
    clear ai
    refine wp_region_grow 9 (fun _=>.plain) (by kernel_rfl) (by kernel_rfl) ?_ (fun ν => ?_)
    ·exact fun _=>trivial
    simp only [aP,aU,aS,aX]
    iterate 9 (refine Grow.val (v := ?_) rfl rfl (fun wg hbg hdg => ?_) ?_;rotate_left;(focus ((have z3:=(hbg.cell (p:=⟨g2,k * 4+3,none⟩) pr).trans cw.out;have hlk:=vi.out wg hbg);clear hbg hdg;first | (go_simp;done) | (go_simp;with_reducible rfl)));simp only [Act.put,aA,aE,aF])
    intro wg hb hf hh
    clear hh
    replace am:=h! (am.out.later hb)
    clear hf
    have gz:=(am.out.cell (p:=⟨gv,j,none⟩) ex).trans fg.out
    have hE:∀ o,wg.frozen? ⟨gv,o,none⟩=false:=fun o=>(am.out.frozen (p:=⟨gv,o,none⟩) ex).trans (nh.out o)
    have dm:Hid (eR (wg.setCell ⟨gv,j,none⟩ (.int .i64 t)) Sv (.slice (some ⟨gv,0,none⟩) nf cv) (kV ys p.vals (j+1))):=h! (by
     have h9:=eR.set (ag.out.off (Off.of_below am.out Foot.none) (fun _ _ h=>h)) (g:=gv) (cap:=cv) (by rw [lZ hZ.out, <-eo.out]) (i:=j) (by rw [lZ hZ.out, <-eo.out];exact hlt4) oq.out
     rw [yB hZ.out tt.out] at h9
     exact h9)
    have dl:Hid (Off Sv ei (wg.setCell ⟨gv,j,none⟩ (.int .i64 t))):=h! ((ib.out.trans (Off.of_below am.out _)).trans ((Off.set wg ⟨gv,j,none⟩ _).mono fun z _ hz=>by have h9:z=gv:=hz;rw [h9];exact kt.out))
    clear am ag mg
    go_wp2
    go_roundw
    case rel=>exact ⟨j+1,hlt4,by go_num,dm.out,dl.out⟩
    simp [intOf];omega
   obtain rfl:nf=j:=by omega
   have sm:Hid (eR wr Sv (.slice av nf cv) ys):=h! (by have h9:=ag.out;rw [eo.out,yA hZ.out, <-eo.out] at h9;exact h9)
   have fF:=h! ((fz.out.trans (qo.out.mono fun q _ h=>Or.inr h)).mono fun q _ h=>(show (q=pm \/ Sf q) \/ Sv q from .inl h))
   have ec:=h! (Off.grow (S:=Sf.or Sv) (Off.of_below hY.out _) (fF.out.trans (ib.out.mono fun q _ h=>Or.inr h)) (fun q hq=>by
    rcases hq with (e | h) | h
    ·exact .inr (by rw [e,qg.out];exact aC _)
    ·exact .inl (.inl h)
    exact .inl (.inr h)))
   have ox:Hid (fV wr S1 (.slice (some ⟨g2,0,none⟩) cr et) (gP (wR O) x1.phis (k+1))):=h! (by
    have h9:=qi.out wr ss ys ec.out mg.out sm.out
    rw [tg.out,hJ HP.out] at h9
    exact h9)
   have gm:Hid (Off S1 bs wr):=h! (bx.out.trans (ec.out.mono fun q _ h=>h.elim (dv.out.1 q) (dv.out.2 q)))
   clear ag mg sm fF ec
   go_wp2
   go_roundw
   case rel=>exact ⟨k+1,hlt3,by go_num,ox.out,gm.out⟩
   simp [intOf];omega
  obtain rfl:cr=k:=by omega
  have kk:Hid (fV wr S1 (.slice hD cr et) (x1.phis.map (wR O))):=h! (by have h9:=ag.out;rw [ew.out,iE, <-ew.out] at h9;exact h9)
  have na:Hid (eX wr SO (.slice (some ⟨g1,0,none⟩) no co) (gP (tE O) xs1 (i+1))):=h! (by
   have h9:=jp.out wr _ bx.out kk.out
   rw [show ({ x1 with phis:=x1.phis.map (wR O) }:BlockD)=tE O x1 from rfl,hJ tk.out] at h9
   exact h9)
  have gm:Hid (Off SO w9 wr):=h! (eg.out.trans (bx.out.mono fun q _ hq=>ie.out q hq))
  clear kk ag
  go_wp2
  go_roundw
  case rel=>exact ⟨i+1,hlt2,by go_num,na.out,gm.out⟩
  simp [intOf];omega
 obtain rfl:no=i:=by omega
 --@X0
 have pf:Hid (eX wr SO (.slice ao no co) (renF f O).blocks):=h! (by
  have h9:=ag.out
  rw [ez.out,iE, <-ez.out,jr.out,yF,nv.out,lf.out] at h9
  exact h9)
 clear ag
 replace HW:=h! (HW.out.trans (hl.out.below (base:=w.heap.size) HW.out.size (fun k _ hk=>by have:=bf.out k hk;omega)))
 replace B2:=h! (B2.out.off hl.out (fun hk=>ee.out _ hk (by simp)))
 replace B5:=h! (B5.out.off hl.out (fun hk=>ee.out _ hk (by simp)))
 replace HQ:=h! (HQ.out.off hl.out ms.out)
 --@X1
 have ld:Hid (Holds [w.heap.size,w.heap.size+1,b4,b4+1,mb,b6] w1.heap.size wr SO (fun W=>eX W SO (.slice ao no co) (renF f O).blocks)):=h! ⟨pf.out,fun _ _ h hk=>h.keep OBlock.nice hk,pf.out.lt,bf.out,ee.out⟩
 clear pf hl
 generalize wr=wz at *
 obtain ⟨aq,bd,bk⟩:=B2.out
 obtain ⟨ay,bn,bo⟩:=B5.out
 --@X2
 go_upto_region 58 with (fail)
 repeat (first | go_skip | go_guarded | go_step | go_upon)
 --@X4
 clear aq bd bk ay bn bo
 have po:=((((Only.set wz (w.heap.size+1) 0 (.slice bh np bi)).put 1 (.int .i64 ar)).put 2 (.int .i64 ce)).put 3 (.slice ao no co))
 replace B5:=h! (B5.out.only po (by first | assumption | (simp;done) | omega))
 replace HQ:=h! ((((HQ.out.other (p:=⟨w.heap.size+1,0,none⟩) (.slice bh np bi) (by simp)).other (p:=⟨w.heap.size+1,1,none⟩) (.int .i64 ar) (by simp)).other (p:=⟨w.heap.size+1,2,none⟩) (.int .i64 ce) (by simp)).other (p:=⟨w.heap.size+1,3,none⟩) (.slice ao no co) (by simp))
 replace ld:=h! ((((ld.out.other (p:=⟨w.heap.size+1,0,none⟩) (.slice bh np bi) (by simp)).other (p:=⟨w.heap.size+1,1,none⟩) (.int .i64 ar) (by simp)).other (p:=⟨w.heap.size+1,2,none⟩) (.int .i64 ce) (by simp)).other (p:=⟨w.heap.size+1,3,none⟩) (.slice ao no co) (by simp))
 replace HW:=h! (po.2.2 HW.out (by first | assumption | omega | (have:=HW.out.size;omega) | (simp;done) | (simp;omega)))
 replace B2:=h! (Box.to (A':=#[(.slice bh np bi),(.int .i64 ar),(.int .i64 ce),(.slice ao no co)]) ((((B2.out.set 0 (.slice bh np bi)).set 1 (.int .i64 ar)).set 2 (.int .i64 ce)).set 3 (.slice ao no co)) (by first | rfl | simp))
 clear po
 generalize ((((wz.setCell ⟨w.heap.size+1,0,none⟩ (.slice bh np bi)).setCell ⟨w.heap.size+1,1,none⟩ (.int .i64 ar)).setCell ⟨w.heap.size+1,2,none⟩ (.int .i64 ce)).setCell ⟨w.heap.size+1,3,none⟩ (.slice ao no co))=wy at *
 obtain ⟨aq,bd,bk⟩:=B2.out
 obtain ⟨ay,bn,bo⟩:=B5.out
 --@X3
 refine bodyPost_ret (v:=.agg #[.slice bh np bi,.int .i64 ar,.int .i64 ce,.slice ao no co]) (by simp [results,Tryz.results37,go_sem,bd]) rfl ⟨O,_,fun q=>SQ q \/ SO q,HO.out,rfl,⟨⟨_,_,SQ,SO,by rw [mh.out.1,mh.out.2];rfl,HQ.out.now,ld.out.now,ms.out,fun k h=>.inl h,fun k h=>.inr h⟩,fun k hk=>hk.elim (HQ.out.lt k) (ld.out.lt k),sd.out.1,sd.out.2⟩,fun k hk => ?_,HW.out⟩
 rcases hk with hk | hk
 ·have:=HQ.out.base k hk;omega
 have:=ld.out.base k hk;omega
end Go.Proofs.YtagabiidbbhhmaaGreat
