/- Part 57. -/
import Derived.Test.YtcmflfkpeodicaaGreatIRA56
namespace Go.Proofs.YtcmflfkpeodicaaGreat
set_option maxHeartbeats 12800000
set_option linter.all false
open Go.RowKit
def kB (t u:TraceD):Bool:=(t.how == u.how) && (t.value == u.value) && (t.trap == u.trap) && decide (t.out=u.out) && decide (t.arrays=u.arrays)
def rW (t u:TraceD):Bool:=kB t u && (t.steps == u.steps) && (t.checks == u.checks) && decide (t.visits=u.visits)
theorem xJ (t:TraceD):rW t t=true:=by simp [rW,kB]
def vD (b:Bool) (w:World) (e:Ending) (w' : World):Prop:=e = .returned (.bool b)/\Below w.heap.size w w'
theorem pX (w:World) (n:Nat):Below w.heap.size w (w.drewN n):=⟨rfl,rfl,rfl,aF _,fun _ _=>rfl⟩
theorem aCB {w:World} {v v' : Value} {t u:TraceD} (ht:lO w v t) (hu:lO w v' u):Calls Tryz.prog 36 #[v,v'] w (vD (kB t u) w):=by
 rcases t with ⟨x0,x1,x2,xo,xa,x5,x6,xv⟩
 rcases u with ⟨y0,y1,y2,yo,ya,y5,y6,yv⟩
 obtain ⟨o1,a1,v1,rfl,ho1,ha1,hv1⟩:=ht
 obtain ⟨o2,a2,v2,rfl,ho2,ha2,hv2⟩:=hu
 simp only at ho1 ha1 hv1 ho2 ha2 hv2 ⊢
 have HO1:=h! ho1
 have HO2:=h! ho2
 have HA1:=h! ha1
 have HA2:=h! ha2
 obtain ⟨b1,c1,rfl⟩:=ho1.form
 obtain ⟨b2,c2,rfl⟩:=ho2.form
 obtain ⟨b3,c3,rfl⟩:=hv1.form
 obtain ⟨b4,c4,rfl⟩:=hv2.form
 obtain ⟨_,b5,c5,_,_,rfl, -, -, -, -, -, -⟩:=ha1.parts
 obtain ⟨_,b6,c6,_,_,rfl, -, -, -, -, -, -⟩:=ha2.parts
 clear ho1 ho2 ha1 ha2 hv1 hv2
 go_enter Tryz.func36,Tryz.ntmps36
 go_upto_region 1 with (fail)
 have hA_:=(Below.refl w.heap.size w).alloc (aF _) (.cells #[.int .i64 x0,.int .i64 x1,.int .i64 x2,.slice b1 xo.length c1,.slice b5 xa.length c5,.int .i64 x5,.int .i64 x6,.slice b3 xv.length c3] 34)
 have HW:=h! hA_
 clear hA_
 have B2:=h! (Box.new w #[.int .i64 x0,.int .i64 x1,.int .i64 x2,.slice b1 xo.length c1,.slice b5 xa.length c5,.int .i64 x5,.int .i64 x6,.slice b3 xv.length c3] 34)
 have hz0_:(w.alloc (.cells #[.int .i64 x0,.int .i64 x1,.int .i64 x2,.slice b1 xo.length c1,.slice b5 xa.length c5,.int .i64 x5,.int .i64 x6,.slice b3 xv.length c3] 34)).heap.size=w.heap.size+1:=World.size_alloc _ _
 generalize w.alloc (.cells #[.int .i64 x0,.int .i64 x1,.int .i64 x2,.slice b1 xo.length c1,.slice b5 xa.length c5,.int .i64 x5,.int .i64 x6,.slice b3 xv.length c3] 34)=wv0 at *
 have hA_:=(Below.refl wv0.heap.size wv0).alloc (aF _) (.cells #[.int .i64 y0,.int .i64 y1,.int .i64 y2,.slice b2 yo.length c2,.slice b6 ya.length c6,.int .i64 y5,.int .i64 y6,.slice b4 yv.length c4] 34)
 replace B2:=h! (B2.out.later hA_)
 replace HW:=h! (HW.out.trans (hA_.mono HW.out.size))
 clear hA_
 have B3:=h! (Box.new wv0 #[.int .i64 y0,.int .i64 y1,.int .i64 y2,.slice b2 yo.length c2,.slice b6 ya.length c6,.int .i64 y5,.int .i64 y6,.slice b4 yv.length c4] 34)
 rw [hz0_] at B3
 clear hz0_
 generalize wv0.alloc (.cells #[.int .i64 y0,.int .i64 y1,.int .i64 y2,.slice b2 yo.length c2,.slice b6 ya.length c6,.int .i64 y5,.int .i64 y6,.slice b4 yv.length c4] 34)=wv at *
 obtain ⟨lB2,cB2,fB2⟩:=B2.out
 obtain ⟨lB3,cB3,fB3⟩:=B3.out
 cases q0:(x0 == y0)
 ·have HRES:Hid (kB ⟨x0,x1,x2,xo,xa,x5,x6,xv⟩ ⟨y0,y1,y2,yo,ya,y5,y6,yv⟩=false):=h! (by simp [kB,q0])
  go_wp2
  go_ret
  exact ⟨by rw [HRES.out];rfl,HW.out⟩
 cases q1:(x1 == y1)
 ·have HRES:Hid (kB ⟨x0,x1,x2,xo,xa,x5,x6,xv⟩ ⟨y0,y1,y2,yo,ya,y5,y6,yv⟩=false):=h! (by simp [kB,q0,q1])
  go_wp2
  go_ret
  exact ⟨by rw [HRES.out];rfl,HW.out⟩
 cases q2:(x2 == y2)
 ·have HRES:Hid (kB ⟨x0,x1,x2,xo,xa,x5,x6,xv⟩ ⟨y0,y1,y2,yo,ya,y5,y6,yv⟩=false):=h! (by simp [kB,q0,q1,q2])
  go_wp2
  go_ret
  exact ⟨by rw [HRES.out];rfl,HW.out⟩
 have HQ:=h! (show (x0 == y0)=true/\(x1 == y1)=true/\(x2 == y2)=true from ⟨q0,q1,q2⟩)
 go_wp2_with fail
 refine (qP (HO1.out.below HW.out) (HO2.out.below HW.out)).mono ?_
 rintro e w2 ⟨rfl,n,rfl⟩
 have hb:=pX wv n
 generalize wv.drewN n=w2 at *
 clear lB2 cB2 fB2 lB3 cB3 fB3
 replace B2:=h! (B2.out.later hb)
 replace B3:=h! (B3.out.later hb)
 replace HW:=h! (HW.out.trans (hb.mono HW.out.size))
 clear hb
 obtain ⟨lB2,cB2,fB2⟩:=B2.out
 obtain ⟨lB3,cB3,fB3⟩:=B3.out
 cases q3:decide (xo=yo)
 ·have HRES:Hid (kB ⟨x0,x1,x2,xo,xa,x5,x6,xv⟩ ⟨y0,y1,y2,yo,ya,y5,y6,yv⟩=false):=h! (by simp only [kB,q3];simp)
  go_wp2
  go_ret
  exact ⟨by rw [HRES.out];rfl,HW.out⟩
 have HQ3:=h! q3
 go_wp2_with fail
 refine (aBK (HA1.out.below HW.out) (HA2.out.below HW.out)).mono ?_
 rintro e w3 ⟨rfl,hb⟩
 have HRES:Hid (kB ⟨x0,x1,x2,xo,xa,x5,x6,xv⟩ ⟨y0,y1,y2,yo,ya,y5,y6,yv⟩=decide (xa=ya)):=h! (by simp only [kB,q3,q0,q1,q2];simp)
 clear lB2 cB2 fB2 lB3 cB3 fB3
 replace B2:=h! (B2.out.later hb)
 replace B3:=h! (B3.out.later hb)
 replace HW:=h! (HW.out.trans (hb.mono HW.out.size))
 clear hb
 obtain ⟨lB2,cB2,fB2⟩:=B2.out
 obtain ⟨lB3,cB3,fB3⟩:=B3.out
 go_wp2
 go_ret
 exact ⟨by rw [HRES.out];rfl,HW.out⟩
theorem aCC {w:World} {v v' : Value} {t u:TraceD} (ht:lO w v t) (hu:lO w v' u):Calls Tryz.prog 12 #[v,v'] w (vD (rW t u) w):=by
 have HT:=h! ht
 have HU:=h! hu
 rcases t with ⟨x0,x1,x2,xo,xa,x5,x6,xv⟩
 rcases u with ⟨y0,y1,y2,yo,ya,y5,y6,yv⟩
 obtain ⟨o1,a1,v1,rfl,ho1,ha1,hv1⟩:=ht
 obtain ⟨o2,a2,v2,rfl,ho2,ha2,hv2⟩:=hu
 simp only at ho1 ha1 hv1 ho2 ha2 hv2 HT HU ⊢
 have HO1:=h! hv1
 have HO2:=h! hv2
 obtain ⟨b1,c1,rfl⟩:=ho1.form
 obtain ⟨b2,c2,rfl⟩:=ho2.form
 obtain ⟨b3,c3,rfl⟩:=hv1.form
 obtain ⟨b4,c4,rfl⟩:=hv2.form
 obtain ⟨_,b5,c5,_,_,rfl, -, -, -, -, -, -⟩:=ha1.parts
 obtain ⟨_,b6,c6,_,_,rfl, -, -, -, -, -, -⟩:=ha2.parts
 clear ho1 ho2 ha1 ha2 hv1 hv2
 go_enter Tryz.func12,Tryz.ntmps12
 go_upto_region 1 with (fail)
 have hA_:=(Below.refl w.heap.size w).alloc (aF _) (.cells #[.int .i64 x0,.int .i64 x1,.int .i64 x2,.slice b1 xo.length c1,.slice b5 xa.length c5,.int .i64 x5,.int .i64 x6,.slice b3 xv.length c3] 34)
 have HW:=h! hA_
 clear hA_
 have B2:=h! (Box.new w #[.int .i64 x0,.int .i64 x1,.int .i64 x2,.slice b1 xo.length c1,.slice b5 xa.length c5,.int .i64 x5,.int .i64 x6,.slice b3 xv.length c3] 34)
 have hz0_:(w.alloc (.cells #[.int .i64 x0,.int .i64 x1,.int .i64 x2,.slice b1 xo.length c1,.slice b5 xa.length c5,.int .i64 x5,.int .i64 x6,.slice b3 xv.length c3] 34)).heap.size=w.heap.size+1:=World.size_alloc _ _
 generalize w.alloc (.cells #[.int .i64 x0,.int .i64 x1,.int .i64 x2,.slice b1 xo.length c1,.slice b5 xa.length c5,.int .i64 x5,.int .i64 x6,.slice b3 xv.length c3] 34)=wv0 at *
 have hA_:=(Below.refl wv0.heap.size wv0).alloc (aF _) (.cells #[.int .i64 y0,.int .i64 y1,.int .i64 y2,.slice b2 yo.length c2,.slice b6 ya.length c6,.int .i64 y5,.int .i64 y6,.slice b4 yv.length c4] 34)
 replace B2:=h! (B2.out.later hA_)
 replace HW:=h! (HW.out.trans (hA_.mono HW.out.size))
 clear hA_
 have B3:=h! (Box.new wv0 #[.int .i64 y0,.int .i64 y1,.int .i64 y2,.slice b2 yo.length c2,.slice b6 ya.length c6,.int .i64 y5,.int .i64 y6,.slice b4 yv.length c4] 34)
 rw [hz0_] at B3
 clear hz0_
 generalize wv0.alloc (.cells #[.int .i64 y0,.int .i64 y1,.int .i64 y2,.slice b2 yo.length c2,.slice b6 ya.length c6,.int .i64 y5,.int .i64 y6,.slice b4 yv.length c4] 34)=wv at *
 obtain ⟨lB2,cB2,fB2⟩:=B2.out
 obtain ⟨lB3,cB3,fB3⟩:=B3.out
 go_wp2_with fail
 refine (aCB (HT.out.below HW.out) (HU.out.below HW.out)).mono ?_
 rintro e w2 ⟨rfl,hb⟩
 clear lB2 cB2 fB2 lB3 cB3 fB3
 replace B2:=h! (B2.out.later hb)
 replace B3:=h! (B3.out.later hb)
 replace HW:=h! (HW.out.trans (hb.mono HW.out.size))
 clear hb
 obtain ⟨lB2,cB2,fB2⟩:=B2.out
 obtain ⟨lB3,cB3,fB3⟩:=B3.out
 obtain ⟨r,hr⟩ : ∃ r,r=kB ⟨x0,x1,x2,xo,xa,x5,x6,xv⟩ ⟨y0,y1,y2,yo,ya,y5,y6,yv⟩:=⟨_,rfl⟩
 have HD:Hid (rW ⟨x0,x1,x2,xo,xa,x5,x6,xv⟩ ⟨y0,y1,y2,yo,ya,y5,y6,yv⟩=(r && (x5 == y5) && (x6 == y6) && decide (xv=yv))):=h! (by rw [hr];rfl)
 rw [<-hr]
 clear hr
 cases r
 ·have HRES:Hid (rW ⟨x0,x1,x2,xo,xa,x5,x6,xv⟩ ⟨y0,y1,y2,yo,ya,y5,y6,yv⟩=false):=h! (by rw [HD.out];rfl)
  go_wp2
  go_ret
  exact ⟨by rw [HRES.out];rfl,HW.out⟩
 cases q1:(x5 == y5)
 ·have HRES:Hid (rW ⟨x0,x1,x2,xo,xa,x5,x6,xv⟩ ⟨y0,y1,y2,yo,ya,y5,y6,yv⟩=false):=h! (by rw [HD.out,q1];rfl)
  go_wp2
  go_ret
  exact ⟨by rw [HRES.out];rfl,HW.out⟩
 cases q2:(x6 == y6)
 ·have HRES:Hid (rW ⟨x0,x1,x2,xo,xa,x5,x6,xv⟩ ⟨y0,y1,y2,yo,ya,y5,y6,yv⟩=false):=h! (by rw [HD.out,q1,q2];rfl)
  go_wp2
  go_ret
  exact ⟨by rw [HRES.out];rfl,HW.out⟩
 have HD2:Hid (rW ⟨x0,x1,x2,xo,xa,x5,x6,xv⟩ ⟨y0,y1,y2,yo,ya,y5,y6,yv⟩=decide (xv=yv)):=h! (by rw [HD.out,q1,q2];rfl)
 go_wp2_with fail
 refine (qP (HO1.out.below HW.out) (HO2.out.below HW.out)).mono ?_
 rintro e w3 ⟨rfl,n,rfl⟩
 have hb:=pX w2 n
 generalize w2.drewN n=w3 at *
 clear lB2 cB2 fB2 lB3 cB3 fB3
 replace B2:=h! (B2.out.later hb)
 replace B3:=h! (B3.out.later hb)
 replace HW:=h! (HW.out.trans (hb.mono HW.out.size))
 clear hb
 obtain ⟨lB2,cB2,fB2⟩:=B2.out
 obtain ⟨lB3,cB3,fB3⟩:=B3.out
 have HRES:=HD2
 go_wp2
 go_ret
 exact ⟨by rw [HRES.out];rfl,HW.out⟩
theorem pN:fM iO 0 0:=by
 refine .inr ⟨fun d hd => ?_,.inr ⟨fun d y hy => ?_,.inr ⟨fun v hv => ?_,rfl,rfl⟩⟩⟩
 ·have h1:d < 1:=hd
  obtain rfl:d=0:=by omega
  exact .zero (by decide)
 ·have h1:=(aE.1 hy).1
  have h2:d < 1:=h1
  obtain rfl:d=0:=by omega
  have h3:some (⟨[],[⟨1,0,[],5⟩],⟨3,0,[],0⟩⟩ : BlockD)=some y:=hy
  injection h3 with h3
  rw [<-h3];rfl
 have h9:∀ v ∈ uxF iO,v.id=0/\v.blk=0/\v.pos=1:=by decide
 obtain ⟨h1,h2,h3⟩:=h9 v hv
 exact ⟨0,0,by rw [h1,rC];rfl,.inr ⟨by omega,.inl ⟨h2.symm,by omega⟩⟩⟩
theorem rX:∃ s1,gP iO 9 (-1) 0 (iI iO ⟨[],[]⟩) = .over ⟨1,5,0⟩ s1/\s1.steps=2:=⟨_,rfl,rfl⟩
theorem pO {t:TraceD} (h:RunP iO ⟨[],[]⟩ 9 t):t.how=1/\t.value=5/\t.steps=2:=by
 rcases h with ⟨-,hn⟩ | ⟨-, -, -,o,s,hr,rfl⟩
 ·exact absurd ⟨tM.1,pN,by omega⟩ hn
 obtain ⟨s1,h1,h2⟩:=rX
 obtain ⟨rfl,rfl⟩:=hr.one (Runs.over h1)
 exact ⟨rfl,rfl,by show ((s.steps:Nat):Int)=2;rw [h2];rfl⟩
theorem aGW {w:World}:Calls Tryz.prog 11 #[] w (vD true w):=by
 go_enter Tryz.func11,Tryz.ntmps11
 go_wp2_with fail
 have hA_:=(Below.refl w.heap.size w).alloc (aF _) (.cells #[.int .i64 1,.int .i64 0,.slice none 0 0,.int .i64 5] 69)
 have HW:=h! hA_
 clear hA_
 have B0:=h! (Box.new w #[.int .i64 1,.int .i64 0,.slice none 0 0,.int .i64 5] 69)
 have hz0_:(w.alloc (.cells #[.int .i64 1,.int .i64 0,.slice none 0 0,.int .i64 5] 69)).heap.size=w.heap.size+1:=World.size_alloc _ _
 generalize w.alloc (.cells #[.int .i64 1,.int .i64 0,.slice none 0 0,.int .i64 5] 69)=wv0 at *
 have hA_:=(Below.refl wv0.heap.size wv0).alloc (aF _) (.cells #[.slice none 0 0,.slice (some ⟨w.heap.size,0,none⟩) 1 1,.int .i64 3,.int .i64 0,.slice none 0 0,.int .i64 0] 50)
 replace B0:=h! (B0.out.later hA_)
 replace HW:=h! (HW.out.trans (hA_.mono HW.out.size))
 clear hA_
 have B1:=h! (Box.new wv0 #[.slice none 0 0,.slice (some ⟨w.heap.size,0,none⟩) 1 1,.int .i64 3,.int .i64 0,.slice none 0 0,.int .i64 0] 50)
 rw [hz0_] at B1
 clear hz0_
 generalize wv0.alloc (.cells #[.slice none 0 0,.slice (some ⟨w.heap.size,0,none⟩) 1 1,.int .i64 3,.int .i64 0,.slice none 0 0,.int .i64 0] 50)=wv at *
 obtain ⟨lB0,cB0,fB0⟩:=B0.out
 obtain ⟨lB1,cB1,fB1⟩:=B1.out
 refine (runC (i:=⟨[],[]⟩) (rV B0.out B1.out) ⟨_,_,rfl,Ints.nil,⟨[],rfl,Row.nil,fun j hj=>absurd hj (by show ¬ j < 0;omega)⟩⟩ ⟨by decide,by decide⟩).mono ?_
 rintro e w2 ⟨v,t,rfl,hp,ht,hb⟩
 obtain ⟨p1,p2,p3⟩:=pO hp
 obtain ⟨ov,av,vv,rfl,ho,ha,hv⟩:=ht
 obtain ⟨b1,c1,rfl⟩:=ho.form
 obtain ⟨b3,c3,rfl⟩:=hv.form
 obtain ⟨_,b5,c5,_,_,rfl, -, -, -, -, -, -⟩:=ha.parts
 rw [p1,p2,p3]
 clear ho ha hv hp p1 p2 p3
 clear lB0 cB0 fB0 lB1 cB1 fB1
 replace B0:=h! (B0.out.later hb)
 replace B1:=h! (B1.out.later hb)
 replace HW:=h! (HW.out.trans (hb.mono HW.out.size))
 clear hb
 obtain ⟨lB0,cB0,fB0⟩:=B0.out
 obtain ⟨lB1,cB1,fB1⟩:=B1.out
 clear lB0 cB0 fB0 lB1 cB1 fB1
 go_wp2
 go_ret
 exact ⟨rfl,HW.out.alloc HW.out.size _⟩
theorem tQ:iB Tryz.prog 26 (pB aEW 1):=jU Tryz.underlying26 (by kernel_rfl) (by kernel_rfl) (by omega) (Nat.le_of_ble_eq_true rfl:8 <= 24) jE
theorem aCD {W:World} {v:Value} {xs:List (List Int)} (h:eQ aEW 1 W v xs):kR W v xs:=by
 obtain ⟨cs,h1,h2⟩:=h
 have hl:=h1.len
 refine ⟨cs,by omega,h1,fun j hj => ?_⟩
 obtain ⟨u,hu,hI⟩:=h2 j _ (aB hj)
 have hc0:cs[j]? = some u:=by
  have h9:=congrArg (fun l:List Value=>l[0]?) hu
  simp only [bE,cH,eF,bW] at h9
  simpa using h9
 have e1:cs.getD j undef=u:=by rw [aH,hc0];rfl
 have e2:xs.getD j []=xs[j]:=by rw [aH,aB hj];rfl
 rw [e1,e2]
 exact hI
def aGX (W:World) (cs:List Value) (i:InputD):Prop := ∃ a b,cs=[a,b]/\Ints W a i.args/\kR W b i.arrays
theorem tR:iB Tryz.prog 28 aGX :=
 (qW Tryz.underlying28 (s0:=1) (s1:=1) (by kernel_rfl) rfl rfl (by kernel_rfl) (by kernel_rfl) jE tQ).mono
  fun W cs y ⟨d0,d1,e,_,⟨v,e0,h0⟩,u,e1,h1⟩=>⟨⟨y.1,y.2⟩,v,u,by rw [e,e0,e1];rfl,h0,aCD h1⟩
set_option maxRecDepth 100000 in
theorem aAI {H:Type} {enc:TypeId × Value -> H} {W:World} {v:Value} {d:DataW H} {ps:List MemPlace} {base:Nat} (hval:Value.okWide Tryz.prog W .any base 28 v)
  (h:DataW.Trod enc Tryz.prog W 0 (fun _=>true) true 28 v d ps) (hz:∀ n ∈ d.weights Tryz.prog 28,n <= reachBytes):∃ i:InputD,nA W v i:=by
 obtain ⟨cs,i,hv,hf⟩:=lJ Tryz.underlying28 tR hval h hz
 obtain ⟨a,b,e,r⟩:=hf
 refine ⟨i,a,b, ?_,r⟩
 rw [hv, <-Array.toArray_toList (xs:=cs),e]
theorem aAJ {f:FuncD} {i:InputD} {fuel:Int} {s t:TraceD} (h:RunP f i fuel s) (k:RunP f i fuel t):s=t:=by
 rcases h with ⟨rfl,hn⟩ | ⟨hc,hF,h0,o,s1,hr,rfl⟩
 ·rcases k with ⟨rfl, -⟩ | ⟨hc,hF,h0, -⟩
  ·rfl
  exact absurd ⟨hc,hF,h0⟩ hn
 rcases k with ⟨-,hn⟩ | ⟨-, -, -,o2,s2,hr2,rfl⟩
 ·exact absurd ⟨hc,hF,h0⟩ hn
 obtain ⟨rfl,rfl⟩:=hr.one hr2
 rfl
def RanR (f:FuncD) (i:InputD) (lo:Int) (x:Value) (W:World):Prop := ∃ t,RunP f i lo t/\lO W x t
theorem RanR.later {f:FuncD} {i:InputD} {lo:Int} {x:Value} {W W' : World} (h:RanR f i lo x W) (hb:Below W.heap.size W W'):RanR f i lo x W':=by
 obtain ⟨t,h1,h2⟩:=h
 exact ⟨t,h1,h2.below hb⟩
theorem rY {f:FuncD} {i:InputD} {lo:Int} {W:World} {v u:Value} (h1:RanR f i lo v W) (h2:RanR f i lo u W):Calls Tryz.prog 12 #[v,u] W (vD true W):=by
 obtain ⟨t,p,a⟩:=h1
 obtain ⟨s,q,b⟩:=h2
 obtain rfl:=aAJ p q
 have h9:=aCC a b
 rwa [xJ] at h9
theorem aID {w:World} {fuel:Int} {na ca nb cb:Nat} {aa ab:Option Addr}:Calls Tryz.prog 10 #[.agg #[.slice aa na ca,.slice ab nb cb],.int .i64 fuel] w fun e w'=>e = .returned (.tuple #[.agg #[.slice aa na ca,.slice ab nb cb],.int .i64 (if 2000 < fuel then 2000 else fuel)])/\Below w.heap.size w w':=by
 by_cases h:2000 < fuel
 ·have ht:decide (2000 < fuel)=true:=by simpa using h
  rw [if_pos h]
  clear h
  go_enter Tryz.func10,Tryz.ntmps10
  go_upto_region 1 with (fail)
  have hA_:=(Below.refl w.heap.size w).alloc (aF _) (.cells #[.slice aa na ca,.slice ab nb cb] 28)
  have HW:=h! hA_
  clear hA_
  have B2:=h! (Box.new w #[.slice aa na ca,.slice ab nb cb] 28)
  have hz0_:(w.alloc (.cells #[.slice aa na ca,.slice ab nb cb] 28)).heap.size=w.heap.size+1:=World.size_alloc _ _
  generalize w.alloc (.cells #[.slice aa na ca,.slice ab nb cb] 28)=wv0 at *
  have hA_:=(Below.refl wv0.heap.size wv0).alloc (aF _) (.cells #[.slice none 0 0,.slice none 0 0] 28)
  replace B2:=h! (B2.out.later hA_)
  replace HW:=h! (HW.out.trans (hA_.mono HW.out.size))
  clear hA_
  have B4:=h! (Box.new wv0 #[.slice none 0 0,.slice none 0 0] 28)
  rw [hz0_] at B4
  clear hz0_
  generalize wv0.alloc (.cells #[.slice none 0 0,.slice none 0 0] 28)=wv at *
  obtain ⟨lB2,cB2,fB2⟩:=B2.out
  obtain ⟨lB4,cB4,fB4⟩:=B4.out
  go_wp2_with fail
  clear lB2 cB2 fB2 lB4 cB4 fB4
  have hO_:=((Only.set wv (w.heap.size+1) 0 (.slice aa na ca)).put 1 (.slice ab nb cb))
  replace B2:=h! (B2.out.only hO_ (by first | assumption | (simp;done) | omega))
  replace HW:=h! (hO_.2.2 HW.out (by first | assumption | omega | (have:=HW.out.size;omega) | (simp;done) | (simp;omega)))
  replace B4:=h! (Box.to (A':=#[(.slice aa na ca),(.slice ab nb cb)]) ((B4.out.set 0 (.slice aa na ca)).set 1 (.slice ab nb cb)) (by first | rfl | simp))
  clear hO_
  generalize ((wv.setCell ⟨w.heap.size+1,0,none⟩ (.slice aa na ca)).setCell ⟨w.heap.size+1,1,none⟩ (.slice ab nb cb))=wz at *
  obtain ⟨lB2,cB2,fB2⟩:=B2.out
  obtain ⟨lB4,cB4,fB4⟩:=B4.out
  exact bodyPost_ret (v:=.tuple #[.agg #[.slice aa na ca,.slice ab nb cb],.int .i64 2000]) (by simp [results,Tryz.results10,go_sem, *]) rfl ⟨rfl,HW.out⟩
 have ht:decide (2000 < fuel)=false:=by simpa using h
 rw [if_neg h]
 clear h
 go_enter Tryz.func10,Tryz.ntmps10
 go_upto_region 1 with (fail)
 have hA_:=(Below.refl w.heap.size w).alloc (aF _) (.cells #[.slice aa na ca,.slice ab nb cb] 28)
 have HW:=h! hA_
 clear hA_
 have B2:=h! (Box.new w #[.slice aa na ca,.slice ab nb cb] 28)
 have hz0_:(w.alloc (.cells #[.slice aa na ca,.slice ab nb cb] 28)).heap.size=w.heap.size+1:=World.size_alloc _ _
 generalize w.alloc (.cells #[.slice aa na ca,.slice ab nb cb] 28)=wv0 at *
 have hA_:=(Below.refl wv0.heap.size wv0).alloc (aF _) (.cells #[.slice none 0 0,.slice none 0 0] 28)
 replace B2:=h! (B2.out.later hA_)
 replace HW:=h! (HW.out.trans (hA_.mono HW.out.size))
 clear hA_
 have B4:=h! (Box.new wv0 #[.slice none 0 0,.slice none 0 0] 28)
 rw [hz0_] at B4
 clear hz0_
 generalize wv0.alloc (.cells #[.slice none 0 0,.slice none 0 0] 28)=wv at *
 obtain ⟨lB2,cB2,fB2⟩:=B2.out
 obtain ⟨lB4,cB4,fB4⟩:=B4.out
 go_wp2_with fail
 clear lB2 cB2 fB2 lB4 cB4 fB4
 have hO_:=((Only.set wv (w.heap.size+1) 0 (.slice aa na ca)).put 1 (.slice ab nb cb))
 replace B2:=h! (B2.out.only hO_ (by first | assumption | (simp;done) | omega))
 replace HW:=h! (hO_.2.2 HW.out (by first | assumption | omega | (have:=HW.out.size;omega) | (simp;done) | (simp;omega)))
 replace B4:=h! (Box.to (A':=#[(.slice aa na ca),(.slice ab nb cb)]) ((B4.out.set 0 (.slice aa na ca)).set 1 (.slice ab nb cb)) (by first | rfl | simp))
 clear hO_
 generalize ((wv.setCell ⟨w.heap.size+1,0,none⟩ (.slice aa na ca)).setCell ⟨w.heap.size+1,1,none⟩ (.slice ab nb cb))=wz at *
 obtain ⟨lB2,cB2,fB2⟩:=B2.out
 obtain ⟨lB4,cB4,fB4⟩:=B4.out
 exact bodyPost_ret (v:=.tuple #[.agg #[.slice aa na ca,.slice ab nb cb],.int .i64 fuel]) (by simp [results,Tryz.results10,go_sem, *]) rfl ⟨rfl,HW.out⟩
theorem aCE {w:World} {v u:Value} (f:FuncD) (i:InputD) {fuel:Int} (hv:gG w v f) (hi:nA w u i) (hf:In64 fuel) :
  Calls Tryz.prog 3 #[v,u,.int .i64 fuel] w fun e w'=>e = .returned (.bool true)/\Below w.heap.size w w':=by
 have HV:=h! hv
 have HI:=h! hi
 obtain ⟨ap,cp,ab,cb,rfl, -, -, -, -⟩:=hv.form
 obtain ⟨ua,ub,rfl,hua,hub⟩:=hi
 obtain ⟨aa,ca,rfl⟩:=hua.form
 obtain ⟨_,b5,c5,_,_,rfl, -, -, -, -, -, -⟩:=hub.parts
 obtain ⟨lo,hlo⟩ : ∃ lo,lo=(if 2000 < fuel then 2000 else fuel):=⟨_,rfl⟩
 have HLO:Hid (In64 lo/\lo <= 200000):=h! (by
  rw [hlo]
  by_cases h:2000 < fuel
  ·rw [if_pos h];exact ⟨⟨by decide,by decide⟩,by omega⟩
  rw [if_neg h];exact ⟨hf,by omega⟩)
 have HLE:=h! hlo
 clear hua hub hv hf hlo
 go_enter Tryz.func3,Tryz.ntmps3
 go_upto_region 1 with (fail)
 have hA_:=(Below.refl w.heap.size w).alloc (aF _) (.cells #[.slice ap f.params.length cp,.int .i64 f.arrays,.int .i64 f.cells,.slice ab f.blocks.length cb] 25)
 have HW:=h! hA_
 clear hA_
 have B3:=h! (Box.new w #[.slice ap f.params.length cp,.int .i64 f.arrays,.int .i64 f.cells,.slice ab f.blocks.length cb] 25)
 have hz0_:(w.alloc (.cells #[.slice ap f.params.length cp,.int .i64 f.arrays,.int .i64 f.cells,.slice ab f.blocks.length cb] 25)).heap.size=w.heap.size+1:=World.size_alloc _ _
 generalize w.alloc (.cells #[.slice ap f.params.length cp,.int .i64 f.arrays,.int .i64 f.cells,.slice ab f.blocks.length cb] 25)=wv0 at *
 have hA_:=(Below.refl wv0.heap.size wv0).alloc (aF _) (.cells #[.slice aa i.args.length ca,.slice b5 i.arrays.length c5] 28)
 replace B3:=h! (B3.out.later hA_)
 replace HW:=h! (HW.out.trans (hA_.mono HW.out.size))
 clear hA_
 have B4:=h! (Box.new wv0 #[.slice aa i.args.length ca,.slice b5 i.arrays.length c5] 28)
 rw [hz0_] at B4
 clear hz0_
 generalize wv0.alloc (.cells #[.slice aa i.args.length ca,.slice b5 i.arrays.length c5] 28)=wv at *
 obtain ⟨lB3,cB3,fB3⟩:=B3.out
 obtain ⟨lB4,cB4,fB4⟩:=B4.out
 go_wp2_with fail
 refine aID.mono ?_
 rintro e w2 ⟨rfl,hb⟩
 clear lB3 cB3 fB3 lB4 cB4 fB4
 replace B3:=h! (B3.out.later hb)
 replace B4:=h! (B4.out.later hb)
 replace HW:=h! (HW.out.trans (hb.mono HW.out.size))
 clear hb
 obtain ⟨lB3,cB3,fB3⟩:=B3.out
 obtain ⟨lB4,cB4,fB4⟩:=B4.out
 rw [<-HLE.out]
 --@A
 go_upto_region 2 with (fail)
 clear lB3 cB3 fB3 lB4 cB4 fB4
 have hO_:=((Only.set w2 (w.heap.size+1) 0 (.slice aa i.args.length ca)).put 1 (.slice b5 i.arrays.length c5))
 replace B3:=h! (B3.out.only hO_ (by first | assumption | (simp;done) | omega))
 replace HW:=h! (hO_.2.2 HW.out (by first | assumption | omega | (have:=HW.out.size;omega) | (simp;done) | (simp;omega)))
 replace B4:=h! (Box.to (A':=#[(.slice aa i.args.length ca),(.slice b5 i.arrays.length c5)]) ((B4.out.set 0 (.slice aa i.args.length ca)).set 1 (.slice b5 i.arrays.length c5)) (by first | rfl | simp))
 clear hO_
 generalize ((w2.setCell ⟨w.heap.size+1,0,none⟩ (.slice aa i.args.length ca)).setCell ⟨w.heap.size+1,1,none⟩ (.slice b5 i.arrays.length c5))=w3 at *
 obtain ⟨lB3,cB3,fB3⟩:=B3.out
 obtain ⟨lB4,cB4,fB4⟩:=B4.out
 have hw:=HW
 refine Four.wp_region_grow (XF:=(fun _=>Foot.none)) (I:=(fun _=>True)) 13 (fun ν kz=>match kz with | 0=>.const (.bool true) | 5=>.holds (fun u w'=>RanR f i lo u w') | 9=>.holds (fun u w'=>RanR f i lo u w') | 10=>.const (.bool true) | _=>.plain) (by kernel_rfl) (by kernel_rfl) ?_ ?_ (fun _ _ h=>h.elim) (fun _ _ _ _=>trivial) trivial ?_ (fun ν => ?_)
 ·(intro ν k;(try dsimp only);split <;> first | exact True.intro | (intro u w1 w2 hu hb;exact hu.later (hb.below (Nat.le_refl _) (fun _ _ ⟨_,_,h⟩=>h.elim))))
 ·(intro ν ν' k h;first | rfl | ((try dsimp only);split <;> first | rfl))
 ·(intro ν j B mk A h;(try dsimp only at h);split at h <;> first | (cases h;exact Nat.le_refl _) | cases h)
 simp only [aK,aR,aM,aT]
 refine Four.Grow.call (f := ?_) (args := ?_) rfl (fun wg => ?_) (fun wg hbg hdg => ?_) ?_
 rotate_left 2
 focus (first | (go_simp;done) | (go_simp;refine And.intro ?_ ?_ <;> with_reducible rfl) | (go_simp;with_reducible rfl))
 focus exact Calls.mono (aGW) (fun e w2 ⟨he,hb2⟩=>⟨_,he,rfl,hb2⟩)
 simp only [Act.put,Known.val,aA,aC,aD]
 iterate 4 (refine Four.Grow.val (v := ?_) rfl rfl (fun wg hbg hdg => ?_) ?_;rotate_left;(focus ((obtain ⟨lg0,cg0,fg0⟩:=B3.out.off hbg.off (fun ⟨_,h⟩=>h.elim));(obtain ⟨lg1,cg1,fg1⟩:=B4.out.off hbg.off (fun ⟨_,h⟩=>h.elim));clear hbg hdg;first | (go_simp;done) | (go_simp;with_reducible rfl)));simp only [Act.put,aA,aC,aD])
 refine Four.Grow.call (f := ?_) (args := ?_) rfl (fun wg => ?_) (fun wg hbg hdg => ?_) ?_
 rotate_left 2
 focus (first | (go_simp;done) | (go_simp;refine And.intro ?_ ?_ <;> with_reducible rfl) | (go_simp;with_reducible rfl))
 focus (exact (runC (HV.out.below (HW.out.trans ((pre0 hbg).mono HW.out.size))) (HI.out.below (HW.out.trans ((pre0 hbg).mono HW.out.size))) HLO.out.1).mono (fun e w2 ⟨v,t,he,hp,ht,hb⟩=>⟨v,he,⟨t,hp,ht⟩,hb⟩))
 simp only [Act.put,Known.val,aA,aC,aD]
 iterate 3 (refine Four.Grow.val (v := ?_) rfl rfl (fun wg hbg hdg => ?_) ?_;rotate_left;(focus ((obtain ⟨lg0,cg0,fg0⟩:=B3.out.off hbg.off (fun ⟨_,h⟩=>h.elim));(obtain ⟨lg1,cg1,fg1⟩:=B4.out.off hbg.off (fun ⟨_,h⟩=>h.elim));clear hbg hdg;first | (go_simp;done) | (go_simp;with_reducible rfl)));simp only [Act.put,aA,aC,aD])
 refine Four.Grow.call (f := ?_) (args := ?_) rfl (fun wg => ?_) (fun wg hbg hdg => ?_) ?_
 rotate_left 2
 focus (first | (go_simp;done) | (go_simp;refine And.intro ?_ ?_ <;> with_reducible rfl) | (go_simp;with_reducible rfl))
 focus (exact (aGU (HV.out.below (HW.out.trans ((pre0 hbg).mono HW.out.size))) (HI.out.below (HW.out.trans ((pre0 hbg).mono HW.out.size))) HLO.out.1 HLO.out.2).mono (fun e w2 ⟨v,t,he,hp,ht,hb⟩=>⟨v,he,⟨t,hp,ht⟩,hb⟩))
 simp only [Act.put,Known.val,aA,aC,aD]
 refine Four.Grow.call (f := ?_) (args := ?_) rfl (fun wg => ?_) (fun wg hbg hdg => ?_) ?_
 rotate_left 2
 focus (first | (go_simp;done) | (go_simp;refine And.intro ?_ ?_ <;> with_reducible rfl) | (go_simp;with_reducible rfl))
 focus exact Calls.mono ((rY (hdg 5 (by kernel_rfl)) (hdg 9 (by kernel_rfl)))) (fun e w2 ⟨he,hb2⟩=>⟨_,he,rfl,hb2⟩)
 simp only [Act.put,Known.val,aA,aC,aD]
 iterate 2 (refine Four.Grow.val (v := ?_) rfl rfl (fun wg hbg hdg => ?_) ?_;rotate_left;(focus ((obtain ⟨lg0,cg0,fg0⟩:=B3.out.off hbg.off (fun ⟨_,h⟩=>h.elim));(obtain ⟨lg1,cg1,fg1⟩:=B4.out.off hbg.off (fun ⟨_,h⟩=>h.elim));clear hbg hdg;first | (go_simp;done) | (go_simp;with_reducible rfl)));simp only [Act.put,aA,aC,aD])
 intro wg hb hf hap
 clear hap
 clear lB3 cB3 fB3 lB4 cB4 fB4
 replace B3:=h! (B3.out.off hb.1 (fun ⟨_,h⟩=>h.elim))
 replace B4:=h! (B4.out.off hb.1 (fun ⟨_,h⟩=>h.elim))
 replace HW:=h! (HW.out.trans (hb.1.below HW.out.size (fun _ _ ⟨_,h⟩=>h.elim)))
 obtain ⟨lB3,cB3,fB3⟩:=B3.out
 obtain ⟨lB4,cB4,fB4⟩:=B4.out
 clear hf
 go_wp2
 go_ret
 exact ⟨rfl,HW.out⟩
end Go.Proofs.YtcmflfkpeodicaaGreat
