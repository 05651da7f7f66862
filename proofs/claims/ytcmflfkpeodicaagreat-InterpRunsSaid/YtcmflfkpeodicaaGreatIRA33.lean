/- Part 33. -/
import Derived.Test.YtcmflfkpeodicaaGreatIRA32
namespace Go.Proofs.YtcmflfkpeodicaaGreat
set_option linter.all false
open Go.RowKit
def ResQ (c:RefC) (w:World) (b:Nat) (D:Foot) (r:Res Int) (e:Ending) (w' : World):Prop:=match r with
 | .go v s1=>e = .returned (.int .i64 v)/\ROk c w b D s1 ⟨0,0,0⟩ false w'
 | .over o s1=>(∃ v:Int,e = .returned (.int .i64 v))/\ROk c w b D s1 o true w'
theorem RefM.look {c:RefC} {w:World} {b:Nat} {D:Foot} {s:RunS} (hm:RefM c w b D s ⟨0,0,0⟩ false):ROk c w b D { s with checks:=s.checks+1 } ⟨0,0,0⟩ false (w.setCell ⟨b,10,none⟩ (.int .i64 ((s.checks:Int)+1))):=by
 obtain ⟨ov,av,vv,xv,cv,F,hp,hD⟩:=hm
 have P1:=hp.put (s' := { s with checks:=s.checks+1 }) (o':=⟨0,0,0⟩) (dead':=false) 10 (.int .i64 ((s.checks:Int)+1)) (by rfl) hp.out hp.arr hp.vis hp.val hp.cel hp.v64
 exact RefP.one hD hp P1 (Off.set w ⟨b,10,none⟩ _)
theorem RefM.b0 {c:RefC} {w:World} {b:Nat} {D:Foot} {s:RunS} {o:OverD} {dead:Bool} (hm:RefM c w b D s o dead):D b:=by
 obtain ⟨ov,av,vv,xv,cv,F,hp,hD⟩:=hm
 exact (hD b).2 ⟨0,(hp.b0 b).2 rfl⟩
theorem RefM.box {c:RefC} {w:World} {b:Nat} {D:Foot} {s:RunS} {o:OverD} {dead:Bool} (hm:RefM c w b D s o dead):∃ ov av vv xv cv,Box w b #[c.fa,.int .i64 c.ar,.int .i64 c.ce,c.fb,.int .i64 o.how,.int .i64 o.value,.int .i64 o.trap,ov,av,.int .i64 s.steps,.int .i64 s.checks,vv,.int .i64 c.fuel,c.iv,xv,cv,.bool dead]:=by
 obtain ⟨ov,av,vv,xv,cv,F,hp,hD⟩:=hm
 exact ⟨_,_,_,_,_,hp.box⟩
theorem uW {op:Int} (h:op=19 \/ op=20) (s:RunS):fY op s = { s with checks:=s.checks+1 }:=by unfold fY;rw [if_pos h]
theorem zZ {op:Int} (h:op=21 \/ op=22) (s:RunS):fY op s=s:=by unfold fY;rw [if_neg (by omega)]
theorem eM.block {W:World} {S:Foot} {b off n c:Nat} {xs:List Int} (h:eM W S (.slice (some ⟨b,off,none⟩) n c) xs) (hn:0 < n):S b:=by
 rcases h.1.form with ⟨h0, -⟩ | ⟨g9,c9,cur9,hv9,hG9, -⟩
 ·have h9:=h.ints
  obtain ⟨_,_,_,_,he,_⟩:=h9.parts
  injection he with e1 e2 e3
  omega
 injection hv9 with q1 q2 q3
 injection q1 with q1
 injection q1 with q1
 rw [q1];exact hG9
theorem RefP.elem {c:RefC} {W:World} {b:Nat} {s:RunS} {o:OverD} {dead:Bool} {ov av vv xv cv:Value} {F:Nat -> Foot} (hp:RefP c W b s o dead ov av vv xv cv F) {nn j ga na cap lna cc:Nat} {a:List Int} {x:Int} {ad:Option Addr} (hn:s.arrays[nn]? = some a) (hx:a[j]? = some x)
  (k8:W.cell? ⟨b,8,none⟩=some (.slice (some ⟨ga,0,none⟩) na cap)) (kg:W.cell? ⟨ga,nn,none⟩=some (.slice ad lna cc)) :
  ∃ g,ad=some ⟨g,0,none⟩/\F 2 g/\g < W.heap.size/\W.cell? ⟨g,j,none⟩=some (.int .i64 x)/\(∀ o,W.frozen? ⟨g,o,none⟩=false) /\ ∀ y,In64 y -> iG (W.setCell ⟨g,j,none⟩ (.int .i64 y)) (F 2) av (s.arrays.set nn (a.set j y)):=by
 obtain ⟨ga1,cap1,cc1,ad1,hav1, -, -,hgc1, -,hj1⟩:=hp.arr.open hn
 obtain ⟨g,rfl,hS,hgl, -,hgx,hgf,hset⟩:=hj1 j x hx
 have h8:=(hp.box.at 8 rfl).symm.trans k8
 rw [hav1] at h8
 injection h8 with h8
 injection h8 with h8
 injection h8 with h8
 injection h8 with h8
 subst h8
 have h9:=hgc1.symm.trans kg
 injection h9 with h9
 injection h9 with h9
 exact ⟨g,h9.symm,hS,hgl,hgx,hgf,hset⟩
set_option maxHeartbeats 25600000 in
set_option maxRecDepth 100000 in
theorem uX {c:RefC} {w:World} {b:Nat} {D S:Foot} {s:RunS} {ar ce op id n:Int} {args:List Int} {u v:Value} (hm:RefM c w b D s ⟨0,0,0⟩ false) (hR:RunOk ar ce s) (hx:InsOk ar ce ⟨op,id,args,n⟩) (hop:op=19 \/ op=20 \/ op=21 \/ op=22) (hv:eM w S v (args.map s.vals)) (hS:S.off D) :
  Calls Tryz.prog 141 #[.pointer (some ⟨b,0,none⟩),.agg #[.int .i64 op,.int .i64 id,u,.int .i64 n],v] w (ResQ c w b D (fA ⟨op,id,args,n⟩ s)):=by
 have HM:=h! hm
 have HR:=h! hR
 have HX:=h! hx
 have HV:=h! hv
 obtain ⟨al,hal⟩ : ∃ al,al=args.length:=⟨_,rfl⟩
 have HAL:=h! hal
 have HVL:Hid ((args.map s.vals).length=al):=h! (by rw [bD,hal])
 have hal2:al=if op=19 \/ op=21 then 1 else 2:=by
  have h9:=hx.args
  simp only at h9
  rw [hal,h9]
  rcases hop with rfl | rfl | rfl | rfl <;> rfl
 obtain ⟨hn0,hn1⟩:=mI (ar:=ar) (ce:=ce) (n:=n) (by rcases hop with rfl | rfl | rfl | rfl <;> exact hx.n)
 obtain ⟨nn,rfl⟩ : ∃ nn:Nat,n=nn:=⟨n.toNat,by omega⟩
 obtain ⟨a,han⟩ : ∃ a,s.arrays[nn]? = some a:=⟨_,aB (by have:=hR.al;omega)⟩
 have HAN:=h! han
 have HA4:=h! (hR.len a (aG han))
 obtain ⟨b5,o5,c5,he5,hb5,hc5⟩:=fK hv.ints (by rw [HVL.out,hal2];split <;> omega)
 rw [HVL.out] at he5
 subst he5
 have hy5:=hc5 0 (by rw [HVL.out,hal2];split <;> omega)
 rw [bW] at hy5
 obtain ⟨y,hy⟩ : ∃ y,y=(args.map s.vals).getD 0 0:=⟨_,rfl⟩
 rw [<-hy] at hy5
 have HY:=h! hy.symm
 have HC5:Hid (1 < al -> w.cell? ⟨b5,o5+1,none⟩=some (.int .i64 ((args.map s.vals).getD 1 0))):=h! (fun h=>hc5 1 (by rw [HVL.out];exact h))
 have NB5:Hid (¬ D b5):=h! (hS b5 (hv.block (by rw [hal2];split <;> omega)))
 obtain ⟨ck,hck⟩ : ∃ ck,ck=s.checks:=⟨_,rfl⟩
 have HCK:=h! hck
 have hckl:ck <= 200000:=by rw [hck];exact hR.chk
 have HVG:Hid (∀ i,In64 ((args.map s.vals).getD i 0)):=h! (fun i=>by
  obtain ⟨_,_,_,_,_,_,hp,_⟩:=hm
  rw [aH]
  cases h9:(args.map s.vals)[i]? with
  | none=>exact ⟨by decide,by decide⟩
  | some y =>
   have h10:=aG h9
   rw [aY] at h10
   obtain ⟨q,_,rfl⟩:=h10
   exact hp.v64 q)
 obtain ⟨_,_,_,_,_,hbox⟩:=hm.box
 have hbl:=hbox.lt
 have K10:Hid (w.cell? ⟨b,10,none⟩=some (.int .i64 (ck:Int))):=h! (by rw [hck];exact hbox.at 10 rfl)
 have F10:Hid (w.frozen? ⟨b,10,none⟩=false):=h! (by obtain ⟨_,_,f⟩:=hbox;exact f 10)
 clear hbox hm hR hx hv hal hal2 hn0 hn1 han hc5 hy hck hS
 --@A
 go_enter Tryz.func141,Tryz.ntmps141
 go_upto_region 1 with (fail)
 have hA_:=(Below.refl w.heap.size w).alloc (aF _) (.cells #[.int .i64 op,.int .i64 id,u,.int .i64 nn] 69)
 have HW:=h! hA_
 clear hA_
 have B4:=h! (Box.new w #[.int .i64 op,.int .i64 id,u,.int .i64 nn] 69)
 generalize w.alloc (.cells #[.int .i64 op,.int .i64 id,u,.int .i64 nn] 69)=wv at *
 obtain ⟨lB4,cB4,fB4⟩:=B4.out
 have HMV:=h! (HM.out.later HW.out)
 have HWV:=HW
 have k10:=(HW.out.cell (p:=⟨b,10,none⟩) hbl).trans K10.out
 have f10:=(HW.out.frozen (p:=⟨b,10,none⟩) hbl).trans F10.out
 rcases hop with rfl | rfl | rfl | rfl
 ·have hal1:al=1:=by have h9:=HX.out.args;rw [<-HAL.out] at h9;rw [h9];rfl
  subst hal1
  have HI:=h! (lW (op:=19) (id:=id) (n:=(nn:Int)) (args:=args) (s:=s) (by omega) rfl HAN.out HY.out)
  have HLK:Hid (ROk c w b D (fY 19 s) ⟨0,0,0⟩ false (wv.setCell ⟨b,10,none⟩ (.int .i64 ((ck:Int)+1)))):=h! (ROk.trans (Off.of_below HWV.out D) (fun k hk=>.inl hk) (by rw [uW (by omega),HCK.out];exact RefM.look HMV.out))
  have B4K:Hid (Box (wv.setCell ⟨b,10,none⟩ (.int .i64 ((ck:Int)+1))) (w.heap.size) #[.int .i64 19,.int .i64 id,u,.int .i64 nn]):=h! (B4.out.off (Off.set wv ⟨b,10,none⟩ (.int .i64 ((ck:Int)+1))) (fun e=>absurd (show w.heap.size=b from e) (by omega)))
  go_upto_region 4 with (fail)
  clear lB4 cB4 fB4 k10 f10
  generalize wv.setCell ⟨b,10,none⟩ (.int .i64 ((ck:Int)+1))=wk at *
  obtain ⟨D2,m2,o2,d2⟩:=HLK.out
  have HM2:=h! m2
  have HO2:=h! o2
  have HD2:=h! d2
  obtain ⟨ov2,av2,vv2,xv2,cv2,F2,hp2,hD2⟩:=m2
  have HP2:=h! hp2
  have HDF:=h! hD2
  obtain ⟨na,hna⟩ : ∃ na,na=(fY 19 s).arrays.length:=⟨_,rfl⟩
  obtain ⟨ga,cap,cc,ad,hav,hgal, -,hgc, -, -⟩:=hp2.arr.open (n:=nn) (a:=a) (by rw [eT];exact HAN.out)
  rw [<-hna] at hav
  have hnn:nn < na:=by rw [hna,eT];exact (aE.1 HAN.out).1
  obtain ⟨l2,c2,f2⟩:=hp2.box
  have k8:wk.cell? ⟨b,8,none⟩=some av2:=c2 8
  rw [hav] at k8
  obtain ⟨lB4,c4,f4⟩:=B4K.out
  have k43:wk.cell? ⟨w.heap.size,3,none⟩=some (.int .i64 nn):=c4 3
  have hyk:=(o2.cell2 (p:=⟨b5,o5,none⟩) hb5 NB5.out).trans hy5
  obtain ⟨lna,hlna⟩ : ∃ lna,lna=a.length:=⟨_,rfl⟩
  rw [<-hlna] at hgc
  have HLN:=h! hlna
  have hl4:=HA4.out
  rw [<-hlna] at hl4
  clear o2 d2 hp2 hD2 hna hav c2 f2 c4 f4 hlna
  by_cases hneg:y < 0
  ·have hd:decide (y < 0)=true:=by simpa using hneg
   have HE:=h! (HI.out.1 (.inl hneg))
   clear hneg
   go_quiet (fail)
   have hbq:=eK (Below.refl wk.heap.size wk) nq
   generalize wk.drewN nq=wq at *
   go_wp2_with fail
   refine (rEnd (HM2.out.later hbq) 2 0 (-2)).mono ?_
   rintro e w2 ⟨rfl,hR2⟩
   have HR2:=h! hR2
   clear hR2
   go_wp2
   go_ret
   rw [HE.out]
   exact ⟨⟨_,rfl⟩,ROk.trans (HO2.out.trans (Off.of_below hbq D)) HD2.out HR2.out⟩
  have hd:decide (y < 0)=false:=by simpa using hneg
  by_cases hbig:(lna:Int) <= y
  ·have hd2:decide ((lna:Int) <= y)=true:=by simpa using hbig
   have HE:=h! (HI.out.1 (.inr (by rw [<-HLN.out];exact hbig)))
   clear hneg hbig
   go_quiet (fail)
   have hbq:=eK (Below.refl wk.heap.size wk) nq
   generalize wk.drewN nq=wq at *
   go_wp2_with fail
   refine (rEnd (HM2.out.later hbq) 2 0 (-2)).mono ?_
   rintro e w2 ⟨rfl,hR2⟩
   have HR2:=h! hR2
   clear hR2
   go_wp2
   go_ret
   rw [HE.out]
   exact ⟨⟨_,rfl⟩,ROk.trans (HO2.out.trans (Off.of_below hbq D)) HD2.out HR2.out⟩
  have hd2:decide ((lna:Int) <= y)=false:=by simpa using hbig
  obtain ⟨j,rfl⟩ : ∃ j:Nat,y=j:=⟨y.toNat,by omega⟩
  have hjl:j < lna:=by omega
  clear hneg hbig
  go_quiet (fail)
  have hbq:=eK (Below.refl wk.heap.size wk) nq
  have HBQ:=h! hbq
  generalize wk.drewN nq=wq at *
  have kj:=(hbq.cell (p:=⟨b,8,none⟩) l2).trans k8
  have kn:=(hbq.cell (p:=⟨w.heap.size,3,none⟩) lB4).trans k43
  have kg:=(hbq.cell (p:=⟨ga,nn,none⟩) hgal).trans hgc
  have ky:=(hbq.cell (p:=⟨b5,o5,none⟩) (aL hb5 HO2.out.size)).trans hyk
  have l2q:=aL l2 hbq.size
  have lB4q:=aL lB4 hbq.size
  have hgaq:=aL hgal hbq.size
  have hb5q:=aL hb5 (aJ HO2.out.size hbq.size)
  clear k8 k43 hgc hyk hd hd2 hbq
  --@L
  obtain ⟨xx,hax⟩ : ∃ xx,a[j]? = some xx:=⟨_,aB (by rw [<-HLN.out];exact hjl)⟩
  have HE:=h! (HI.out.2 j xx rfl hax)
  obtain ⟨g,rfl, -,hgl,hgx, -, -⟩:=(HP2.out.later HBQ.out).elem (nn:=nn) (a:=a) (by rw [eT];exact HAN.out) hax kj kg
  clear hax
  go_upto_region 12 with (fail)
  go_quiet (fail)
  have hbq:=eK HBQ.out nq
  generalize wq.drewN nq=wz at *
  go_wp2
  go_ret
  rw [HE.out]
  exact ⟨rfl,ROk.trans HO2.out HD2.out (ROk.same HM2.out hbq)⟩
 ·have hal1:al=2:=by have h9:=HX.out.args;rw [<-HAL.out] at h9;rw [h9];rfl
  subst hal1
  have hz5:=HC5.out (by omega)
  obtain ⟨z,hz⟩ : ∃ z,z=(args.map s.vals).getD 1 0:=⟨_,rfl⟩
  have HZ64:Hid (In64 z):=h! (by rw [hz];exact HVG.out 1)
  rw [<-hz] at hz5
  have HI:=h! (kU (op:=20) (id:=id) (n:=(nn:Int)) (args:=args) (s:=s) (by omega) rfl HAN.out HY.out hz.symm)
  clear hz
  have HLK:Hid (ROk c w b D (fY 20 s) ⟨0,0,0⟩ false (wv.setCell ⟨b,10,none⟩ (.int .i64 ((ck:Int)+1)))):=h! (ROk.trans (Off.of_below HWV.out D) (fun k hk=>.inl hk) (by rw [uW (by omega),HCK.out];exact RefM.look HMV.out))
  have B4K:Hid (Box (wv.setCell ⟨b,10,none⟩ (.int .i64 ((ck:Int)+1))) (w.heap.size) #[.int .i64 20,.int .i64 id,u,.int .i64 nn]):=h! (B4.out.off (Off.set wv ⟨b,10,none⟩ (.int .i64 ((ck:Int)+1))) (fun e=>absurd (show w.heap.size=b from e) (by omega)))
  go_upto_region 4 with (fail)
  clear lB4 cB4 fB4 k10 f10
  generalize wv.setCell ⟨b,10,none⟩ (.int .i64 ((ck:Int)+1))=wk at *
  obtain ⟨D2,m2,o2,d2⟩:=HLK.out
  have HM2:=h! m2
  have HO2:=h! o2
  have HD2:=h! d2
  obtain ⟨ov2,av2,vv2,xv2,cv2,F2,hp2,hD2⟩:=m2
  have HP2:=h! hp2
  have HDF:=h! hD2
  obtain ⟨na,hna⟩ : ∃ na,na=(fY 20 s).arrays.length:=⟨_,rfl⟩
  obtain ⟨ga,cap,cc,ad,hav,hgal, -,hgc, -, -⟩:=hp2.arr.open (n:=nn) (a:=a) (by rw [eT];exact HAN.out)
  rw [<-hna] at hav
  have hnn:nn < na:=by rw [hna,eT];exact (aE.1 HAN.out).1
  obtain ⟨l2,c2,f2⟩:=hp2.box
  have k8:wk.cell? ⟨b,8,none⟩=some av2:=c2 8
  rw [hav] at k8
  obtain ⟨lB4,c4,f4⟩:=B4K.out
  have k43:wk.cell? ⟨w.heap.size,3,none⟩=some (.int .i64 nn):=c4 3
  have hyk:=(o2.cell2 (p:=⟨b5,o5,none⟩) hb5 NB5.out).trans hy5
  obtain ⟨lna,hlna⟩ : ∃ lna,lna=a.length:=⟨_,rfl⟩
  rw [<-hlna] at hgc
  have HLN:=h! hlna
  have hl4:=HA4.out
  rw [<-hlna] at hl4
  clear o2 d2 hp2 hD2 hna hav c2 f2 c4 f4 hlna
  by_cases hneg:y < 0
  ·have hd:decide (y < 0)=true:=by simpa using hneg
   have HE:=h! (HI.out.1 (.inl hneg))
   clear hneg
   go_quiet (fail)
   have hbq:=eK (Below.refl wk.heap.size wk) nq
   generalize wk.drewN nq=wq at *
   go_wp2_with fail
   refine (rEnd (HM2.out.later hbq) 2 0 (-2)).mono ?_
   rintro e w2 ⟨rfl,hR2⟩
   have HR2:=h! hR2
   clear hR2
   go_wp2
   go_ret
   rw [HE.out]
   exact ⟨⟨_,rfl⟩,ROk.trans (HO2.out.trans (Off.of_below hbq D)) HD2.out HR2.out⟩
  have hd:decide (y < 0)=false:=by simpa using hneg
  by_cases hbig:(lna:Int) <= y
  ·have hd2:decide ((lna:Int) <= y)=true:=by simpa using hbig
   have HE:=h! (HI.out.1 (.inr (by rw [<-HLN.out];exact hbig)))
   clear hneg hbig
   go_quiet (fail)
   have hbq:=eK (Below.refl wk.heap.size wk) nq
   generalize wk.drewN nq=wq at *
   go_wp2_with fail
   refine (rEnd (HM2.out.later hbq) 2 0 (-2)).mono ?_
   rintro e w2 ⟨rfl,hR2⟩
   have HR2:=h! hR2
   clear hR2
   go_wp2
   go_ret
   rw [HE.out]
   exact ⟨⟨_,rfl⟩,ROk.trans (HO2.out.trans (Off.of_below hbq D)) HD2.out HR2.out⟩
  have hd2:decide ((lna:Int) <= y)=false:=by simpa using hbig
  obtain ⟨j,rfl⟩ : ∃ j:Nat,y=j:=⟨y.toNat,by omega⟩
  have hjl:j < lna:=by omega
  clear hneg hbig
  go_quiet (fail)
  have hbq:=eK (Below.refl wk.heap.size wk) nq
  have HBQ:=h! hbq
  generalize wk.drewN nq=wq at *
  have kj:=(hbq.cell (p:=⟨b,8,none⟩) l2).trans k8
  have kn:=(hbq.cell (p:=⟨w.heap.size,3,none⟩) lB4).trans k43
  have kg:=(hbq.cell (p:=⟨ga,nn,none⟩) hgal).trans hgc
  have ky:=(hbq.cell (p:=⟨b5,o5,none⟩) (aL hb5 HO2.out.size)).trans hyk
  have l2q:=aL l2 hbq.size
  have lB4q:=aL lB4 hbq.size
  have hgaq:=aL hgal hbq.size
  have hb5q:=aL hb5 (aJ HO2.out.size hbq.size)
  clear k8 k43 hgc hyk hd hd2 hbq
  --@S
  obtain ⟨xx,hax⟩ : ∃ xx,a[j]? = some xx:=⟨_,aB (by rw [<-HLN.out];exact hjl)⟩
  have HAX:=h! hax
  have HE:=h! (HI.out.2 j rfl (by rw [<-HLN.out];exact hjl))
  have kz:=(HBQ.out.cell (p:=⟨b5,o5+1,none⟩) (aL hb5 HO2.out.size)).trans ((HO2.out.cell2 (p:=⟨b5,o5+1,none⟩) hb5 NB5.out).trans hz5)
  obtain ⟨g,rfl, -,hgl,hgx, -, -⟩:=(HP2.out.later HBQ.out).elem (nn:=nn) (a:=a) (by rw [eT];exact HAN.out) hax kj kg
  have KJ:=h! kj
  have KG:=h! kg
  clear hax hgx hz5 kj kg
  go_upto_region 10 with (fail)
  refine wp_region_grow 16 (fun _=>.plain) (by kernel_rfl) (by kernel_rfl) ?_ (fun ν => ?_)
  ·exact fun _=>trivial
  simp only [aK,aR,aM,aT]
  iterate 16 (refine Grow.val (v := ?_) rfl rfl (fun wg hbg hdg => ?_) ?_;rotate_left;(focus ((have q8:=(hbg.cell (p:=⟨b,8,none⟩) l2q).trans KJ.out;have q4:=(hbg.cell (p:=⟨w.heap.size,3,none⟩) lB4q).trans kn;have qg:=(hbg.cell (p:=⟨ga,nn,none⟩) hgaq).trans KG.out;have qy:=(hbg.cell (p:=⟨b5,o5,none⟩) hb5q).trans ky;have qz:=(hbg.cell (p:=⟨b5,o5+1,none⟩) hb5q).trans kz);clear hbg hdg;first | (go_simp;done) | (go_simp;with_reducible rfl)));simp only [Act.put,aA,aC,aD])
  intro wg hb hf hap
  clear hap
  clear hf kn ky kz
  have hbz:=HBQ.out.trans (hb.mono HBQ.out.size)
  have HP3:=h! (HP2.out.later hbz)
  obtain ⟨g2,e2,hFg,hgl3,hgx3,hgf3,hset⟩:=HP3.out.elem (nn:=nn) (a:=a) (by rw [eT];exact HAN.out) HAX.out ((hb.cell (p:=⟨b,8,none⟩) l2q).trans KJ.out) ((hb.cell (p:=⟨ga,nn,none⟩) hgaq).trans KG.out)
  obtain rfl:g=g2:=by injection e2 with e2;injection e2
  have HOW:Hid (Off D w wg):=h! (HO2.out.trans (Off.of_below hbz D))
  have HOZ:Hid (Off D2 wk wg):=h! (Off.of_below hbz D2)
  have HFG:=h! hFg
  have h9:=hset z HZ64.out
  rw [eT] at h9
  have HST:=h! h9
  have hoff:=Off.set wg ⟨g,j,none⟩ (.int .i64 z)
  have HFIN:Hid (ROk c w b D { fY 20 s with arrays:=s.arrays.set nn (a.set j z) } ⟨0,0,0⟩ false (wg.setCell ⟨g,j,none⟩ (.int .i64 z))):=h! (ROk.trans HO2.out HD2.out (ROk.trans HOZ.out (fun k hk=>.inl hk) (ROk.of (F':=newF F2 2 (F2 2)) HDF.out (HP3.out.turn 2 (by omega) (by omega) (s' := { fY 20 s with arrays:=s.arrays.set nn (a.set j z) }) (G:=F2 2) (hoff.mono fun k _ hk=>by cases hk;exact HFG.out) (fun k hk=>.inl hk) (aJ (HP3.out.base 2 g hFg) (bG hgl3)) ⟨rfl,rfl⟩ (by rw [if_neg (by omega)]) (by rw [if_pos rfl];exact HST.out) (by rw [if_neg (by omega)]) (by rw [if_neg (by omega)]) (by rw [if_neg (by omega)])) (hoff.mono fun k _ hk=>by cases hk;exact ⟨2,HFG.out⟩) (iM fun k hk=>.inl hk))))
  clear hset h9 hoff hFg e2 hbz hb
  go_wp2
  go_ret
  rw [HE.out]
  exact ⟨rfl,HFIN.out⟩
 ·have hal1:al=1:=by have h9:=HX.out.args;rw [<-HAL.out] at h9;rw [h9];rfl
  subst hal1
  have HI:=h! (lW (op:=21) (id:=id) (n:=(nn:Int)) (args:=args) (s:=s) (by omega) rfl HAN.out HY.out)
  have HLK:Hid (ROk c w b D (fY 21 s) ⟨0,0,0⟩ false wv):=h! (ROk.trans (Off.of_below HWV.out D) (fun k hk=>.inl hk) (by rw [zZ (by omega)];exact ROk.same HMV.out (Below.refl _ _)))
  have B4K:=B4
  go_upto_region 4 with (fail)
  clear lB4 cB4 fB4 k10 f10
  obtain ⟨wk,hwk⟩ : ∃ wk,wk=wv:=⟨_,rfl⟩
  rw [<-hwk] at HLK B4K ⊢
  clear hwk
  obtain ⟨D2,m2,o2,d2⟩:=HLK.out
  have HM2:=h! m2
  have HO2:=h! o2
  have HD2:=h! d2
  obtain ⟨ov2,av2,vv2,xv2,cv2,F2,hp2,hD2⟩:=m2
  have HP2:=h! hp2
  have HDF:=h! hD2
  obtain ⟨na,hna⟩ : ∃ na,na=(fY 21 s).arrays.length:=⟨_,rfl⟩
  obtain ⟨ga,cap,cc,ad,hav,hgal, -,hgc, -, -⟩:=hp2.arr.open (n:=nn) (a:=a) (by rw [eT];exact HAN.out)
  rw [<-hna] at hav
  have hnn:nn < na:=by rw [hna,eT];exact (aE.1 HAN.out).1
  obtain ⟨l2,c2,f2⟩:=hp2.box
  have k8:wk.cell? ⟨b,8,none⟩=some av2:=c2 8
  rw [hav] at k8
  obtain ⟨lB4,c4,f4⟩:=B4K.out
  have k43:wk.cell? ⟨w.heap.size,3,none⟩=some (.int .i64 nn):=c4 3
  have hyk:=(o2.cell2 (p:=⟨b5,o5,none⟩) hb5 NB5.out).trans hy5
  obtain ⟨lna,hlna⟩ : ∃ lna,lna=a.length:=⟨_,rfl⟩
  rw [<-hlna] at hgc
  have HLN:=h! hlna
  have hl4:=HA4.out
  rw [<-hlna] at hl4
  clear o2 d2 hp2 hD2 hna hav c2 f2 c4 f4 hlna
  by_cases hneg:y < 0
  ·have hd:decide (y < 0)=true:=by simpa using hneg
   have HE:=h! (HI.out.1 (.inl hneg))
   clear hneg
   go_quiet (fail)
   have hbq:=eK (Below.refl wk.heap.size wk) nq
   generalize wk.drewN nq=wq at *
   go_wp2_with fail
   refine (rEnd (HM2.out.later hbq) 5 0 0).mono ?_
   rintro e w2 ⟨rfl,hR2⟩
   have HR2:=h! hR2
   clear hR2
   go_wp2
   go_ret
   rw [HE.out]
   exact ⟨⟨_,rfl⟩,ROk.trans (HO2.out.trans (Off.of_below hbq D)) HD2.out HR2.out⟩
  have hd:decide (y < 0)=false:=by simpa using hneg
  by_cases hbig:(lna:Int) <= y
  ·have hd2:decide ((lna:Int) <= y)=true:=by simpa using hbig
   have HE:=h! (HI.out.1 (.inr (by rw [<-HLN.out];exact hbig)))
   clear hneg hbig
   go_quiet (fail)
   have hbq:=eK (Below.refl wk.heap.size wk) nq
   generalize wk.drewN nq=wq at *
   go_wp2_with fail
   refine (rEnd (HM2.out.later hbq) 5 0 0).mono ?_
   rintro e w2 ⟨rfl,hR2⟩
   have HR2:=h! hR2
   clear hR2
   go_wp2
   go_ret
   rw [HE.out]
   exact ⟨⟨_,rfl⟩,ROk.trans (HO2.out.trans (Off.of_below hbq D)) HD2.out HR2.out⟩
  have hd2:decide ((lna:Int) <= y)=false:=by simpa using hbig
  obtain ⟨j,rfl⟩ : ∃ j:Nat,y=j:=⟨y.toNat,by omega⟩
  have hjl:j < lna:=by omega
  clear hneg hbig
  go_quiet (fail)
  have hbq:=eK (Below.refl wk.heap.size wk) nq
  have HBQ:=h! hbq
  generalize wk.drewN nq=wq at *
  have kj:=(hbq.cell (p:=⟨b,8,none⟩) l2).trans k8
  have kn:=(hbq.cell (p:=⟨w.heap.size,3,none⟩) lB4).trans k43
  have kg:=(hbq.cell (p:=⟨ga,nn,none⟩) hgal).trans hgc
  have ky:=(hbq.cell (p:=⟨b5,o5,none⟩) (aL hb5 HO2.out.size)).trans hyk
  have l2q:=aL l2 hbq.size
  have lB4q:=aL lB4 hbq.size
  have hgaq:=aL hgal hbq.size
  have hb5q:=aL hb5 (aJ HO2.out.size hbq.size)
  clear k8 k43 hgc hyk hd hd2 hbq
  --@L
  obtain ⟨xx,hax⟩ : ∃ xx,a[j]? = some xx:=⟨_,aB (by rw [<-HLN.out];exact hjl)⟩
  have HE:=h! (HI.out.2 j xx rfl hax)
  obtain ⟨g,rfl, -,hgl,hgx, -, -⟩:=(HP2.out.later HBQ.out).elem (nn:=nn) (a:=a) (by rw [eT];exact HAN.out) hax kj kg
  clear hax
  go_upto_region 12 with (fail)
  go_quiet (fail)
  have hbq:=eK HBQ.out nq
  generalize wq.drewN nq=wz at *
  go_wp2
  go_ret
  rw [HE.out]
  exact ⟨rfl,ROk.trans HO2.out HD2.out (ROk.same HM2.out hbq)⟩
 ·have hal1:al=2:=by have h9:=HX.out.args;rw [<-HAL.out] at h9;rw [h9];rfl
  subst hal1
  have hz5:=HC5.out (by omega)
  obtain ⟨z,hz⟩ : ∃ z,z=(args.map s.vals).getD 1 0:=⟨_,rfl⟩
  have HZ64:Hid (In64 z):=h! (by rw [hz];exact HVG.out 1)
  rw [<-hz] at hz5
  have HI:=h! (kU (op:=22) (id:=id) (n:=(nn:Int)) (args:=args) (s:=s) (by omega) rfl HAN.out HY.out hz.symm)
  clear hz
  have HLK:Hid (ROk c w b D (fY 22 s) ⟨0,0,0⟩ false wv):=h! (ROk.trans (Off.of_below HWV.out D) (fun k hk=>.inl hk) (by rw [zZ (by omega)];exact ROk.same HMV.out (Below.refl _ _)))
  have B4K:=B4
  go_upto_region 4 with (fail)
  clear lB4 cB4 fB4 k10 f10
  obtain ⟨wk,hwk⟩ : ∃ wk,wk=wv:=⟨_,rfl⟩
  rw [<-hwk] at HLK B4K ⊢
  clear hwk
  obtain ⟨D2,m2,o2,d2⟩:=HLK.out
  have HM2:=h! m2
  have HO2:=h! o2
  have HD2:=h! d2
  obtain ⟨ov2,av2,vv2,xv2,cv2,F2,hp2,hD2⟩:=m2
  have HP2:=h! hp2
  have HDF:=h! hD2
  obtain ⟨na,hna⟩ : ∃ na,na=(fY 22 s).arrays.length:=⟨_,rfl⟩
  obtain ⟨ga,cap,cc,ad,hav,hgal, -,hgc, -, -⟩:=hp2.arr.open (n:=nn) (a:=a) (by rw [eT];exact HAN.out)
  rw [<-hna] at hav
  have hnn:nn < na:=by rw [hna,eT];exact (aE.1 HAN.out).1
  obtain ⟨l2,c2,f2⟩:=hp2.box
  have k8:wk.cell? ⟨b,8,none⟩=some av2:=c2 8
  rw [hav] at k8
  obtain ⟨lB4,c4,f4⟩:=B4K.out
  have k43:wk.cell? ⟨w.heap.size,3,none⟩=some (.int .i64 nn):=c4 3
  have hyk:=(o2.cell2 (p:=⟨b5,o5,none⟩) hb5 NB5.out).trans hy5
  obtain ⟨lna,hlna⟩ : ∃ lna,lna=a.length:=⟨_,rfl⟩
  rw [<-hlna] at hgc
  have HLN:=h! hlna
  have hl4:=HA4.out
  rw [<-hlna] at hl4
  clear o2 d2 hp2 hD2 hna hav c2 f2 c4 f4 hlna
  by_cases hneg:y < 0
  ·have hd:decide (y < 0)=true:=by simpa using hneg
   have HE:=h! (HI.out.1 (.inl hneg))
   clear hneg
   go_quiet (fail)
   have hbq:=eK (Below.refl wk.heap.size wk) nq
   generalize wk.drewN nq=wq at *
   go_wp2_with fail
   refine (rEnd (HM2.out.later hbq) 5 0 0).mono ?_
   rintro e w2 ⟨rfl,hR2⟩
   have HR2:=h! hR2
   clear hR2
   go_wp2
   go_ret
   rw [HE.out]
   exact ⟨⟨_,rfl⟩,ROk.trans (HO2.out.trans (Off.of_below hbq D)) HD2.out HR2.out⟩
  have hd:decide (y < 0)=false:=by simpa using hneg
  by_cases hbig:(lna:Int) <= y
  ·have hd2:decide ((lna:Int) <= y)=true:=by simpa using hbig
   have HE:=h! (HI.out.1 (.inr (by rw [<-HLN.out];exact hbig)))
   clear hneg hbig
   go_quiet (fail)
   have hbq:=eK (Below.refl wk.heap.size wk) nq
   generalize wk.drewN nq=wq at *
   go_wp2_with fail
   refine (rEnd (HM2.out.later hbq) 5 0 0).mono ?_
   rintro e w2 ⟨rfl,hR2⟩
   have HR2:=h! hR2
   clear hR2
   go_wp2
   go_ret
   rw [HE.out]
   exact ⟨⟨_,rfl⟩,ROk.trans (HO2.out.trans (Off.of_below hbq D)) HD2.out HR2.out⟩
  have hd2:decide ((lna:Int) <= y)=false:=by simpa using hbig
  obtain ⟨j,rfl⟩ : ∃ j:Nat,y=j:=⟨y.toNat,by omega⟩
  have hjl:j < lna:=by omega
  clear hneg hbig
  go_quiet (fail)
  have hbq:=eK (Below.refl wk.heap.size wk) nq
  have HBQ:=h! hbq
  generalize wk.drewN nq=wq at *
  have kj:=(hbq.cell (p:=⟨b,8,none⟩) l2).trans k8
  have kn:=(hbq.cell (p:=⟨w.heap.size,3,none⟩) lB4).trans k43
  have kg:=(hbq.cell (p:=⟨ga,nn,none⟩) hgal).trans hgc
  have ky:=(hbq.cell (p:=⟨b5,o5,none⟩) (aL hb5 HO2.out.size)).trans hyk
  have l2q:=aL l2 hbq.size
  have lB4q:=aL lB4 hbq.size
  have hgaq:=aL hgal hbq.size
  have hb5q:=aL hb5 (aJ HO2.out.size hbq.size)
  clear k8 k43 hgc hyk hd hd2 hbq
  --@S
  obtain ⟨xx,hax⟩ : ∃ xx,a[j]? = some xx:=⟨_,aB (by rw [<-HLN.out];exact hjl)⟩
  have HAX:=h! hax
  have HE:=h! (HI.out.2 j rfl (by rw [<-HLN.out];exact hjl))
  have kz:=(HBQ.out.cell (p:=⟨b5,o5+1,none⟩) (aL hb5 HO2.out.size)).trans ((HO2.out.cell2 (p:=⟨b5,o5+1,none⟩) hb5 NB5.out).trans hz5)
  obtain ⟨g,rfl, -,hgl,hgx, -, -⟩:=(HP2.out.later HBQ.out).elem (nn:=nn) (a:=a) (by rw [eT];exact HAN.out) hax kj kg
  have KJ:=h! kj
  have KG:=h! kg
  clear hax hgx hz5 kj kg
  go_upto_region 10 with (fail)
  refine wp_region_grow 16 (fun _=>.plain) (by kernel_rfl) (by kernel_rfl) ?_ (fun ν => ?_)
  ·exact fun _=>trivial
  simp only [aK,aR,aM,aT]
  iterate 16 (refine Grow.val (v := ?_) rfl rfl (fun wg hbg hdg => ?_) ?_;rotate_left;(focus ((have q8:=(hbg.cell (p:=⟨b,8,none⟩) l2q).trans KJ.out;have q4:=(hbg.cell (p:=⟨w.heap.size,3,none⟩) lB4q).trans kn;have qg:=(hbg.cell (p:=⟨ga,nn,none⟩) hgaq).trans KG.out;have qy:=(hbg.cell (p:=⟨b5,o5,none⟩) hb5q).trans ky;have qz:=(hbg.cell (p:=⟨b5,o5+1,none⟩) hb5q).trans kz);clear hbg hdg;first | (go_simp;done) | (go_simp;with_reducible rfl)));simp only [Act.put,aA,aC,aD])
  intro wg hb hf hap
  clear hap
  clear hf kn ky kz
  have hbz:=HBQ.out.trans (hb.mono HBQ.out.size)
  have HP3:=h! (HP2.out.later hbz)
  obtain ⟨g2,e2,hFg,hgl3,hgx3,hgf3,hset⟩:=HP3.out.elem (nn:=nn) (a:=a) (by rw [eT];exact HAN.out) HAX.out ((hb.cell (p:=⟨b,8,none⟩) l2q).trans KJ.out) ((hb.cell (p:=⟨ga,nn,none⟩) hgaq).trans KG.out)
  obtain rfl:g=g2:=by injection e2 with e2;injection e2
  have HOW:Hid (Off D w wg):=h! (HO2.out.trans (Off.of_below hbz D))
  have HOZ:Hid (Off D2 wk wg):=h! (Off.of_below hbz D2)
  have HFG:=h! hFg
  have h9:=hset z HZ64.out
  rw [eT] at h9
  have HST:=h! h9
  have hoff:=Off.set wg ⟨g,j,none⟩ (.int .i64 z)
  have HFIN:Hid (ROk c w b D { fY 22 s with arrays:=s.arrays.set nn (a.set j z) } ⟨0,0,0⟩ false (wg.setCell ⟨g,j,none⟩ (.int .i64 z))):=h! (ROk.trans HO2.out HD2.out (ROk.trans HOZ.out (fun k hk=>.inl hk) (ROk.of (F':=newF F2 2 (F2 2)) HDF.out (HP3.out.turn 2 (by omega) (by omega) (s' := { fY 22 s with arrays:=s.arrays.set nn (a.set j z) }) (G:=F2 2) (hoff.mono fun k _ hk=>by cases hk;exact HFG.out) (fun k hk=>.inl hk) (aJ (HP3.out.base 2 g hFg) (bG hgl3)) ⟨rfl,rfl⟩ (by rw [if_neg (by omega)]) (by rw [if_pos rfl];exact HST.out) (by rw [if_neg (by omega)]) (by rw [if_neg (by omega)]) (by rw [if_neg (by omega)])) (hoff.mono fun k _ hk=>by cases hk;exact ⟨2,HFG.out⟩) (iM fun k hk=>.inl hk))))
  clear hset h9 hoff hFg e2 hbz hb
  go_wp2
  go_ret
  rw [HE.out]
  exact ⟨rfl,HFIN.out⟩
end Go.Proofs.YtcmflfkpeodicaaGreat
