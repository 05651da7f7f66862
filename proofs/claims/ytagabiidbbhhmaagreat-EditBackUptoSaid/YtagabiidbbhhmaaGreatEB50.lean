/- Part 50. -/
import Derived.Test.YtagabiidbbhhmaaGreatEB49
namespace Go.Proofs.YtagabiidbbhhmaaGreat
set_option maxHeartbeats 6400000
set_option linter.all false
open Go.RowKit Go.Shelf
private theorem fQ.alloc {w0 W:World} (h:fQ w0 W) (o:Obj):fQ w0 (W.alloc o):=h.later ((Below.refl _ _).alloc (aA _) o)
open Go.RowKit
theorem yO (W:World) (v:Value) (f:FuncD) (hv:fJ W v f):Calls Tryz.prog 11 #[v] W (RenR f W):=wK (fun _ _ _ h1 h2 h3=>aBM h1 h2 h3) hv
theorem aEW {w:World} {v v' : Value} {f g:FuncD} (hf:fJ w v f) (hg:fJ w v' g) :
  Calls Tryz.prog 15 #[v,v'] w fun e w' => ∃ r,e = .returned (.bool r)/\zQ f g r/\Below w.heap.size w w':=zR yO hf hg
theorem oE:fZ gF 0 0:=by
 refine .inr ⟨fun d hd => ?_,.inr ⟨fun d y hy => ?_,.inr ⟨fun v hv => ?_,rfl,rfl⟩⟩⟩
 ·have h1:d < 1:=hd
  obtain rfl:d=0:=by omega
  exact .zero (by decide)
 ·have h1:=(aD.1 hy).1
  have h2:d < 1:=h1
  obtain rfl:d=0:=by omega
  have h3:some (⟨[],[⟨1,0,[],5⟩],⟨3,0,[],0⟩⟩ : BlockD)=some y:=hy
  injection h3 with h3
  rw [<-h3];rfl
 have h9:∀ v ∈ uxF gF,v.id=0/\v.blk=0/\v.pos=1:=by decide
 obtain ⟨h1,h2,h3⟩:=h9 v hv
 exact ⟨0,0,by rw [h1,qM];rfl,.inr ⟨by omega,.inl ⟨h2.symm,by omega⟩⟩⟩
theorem kU {g:FuncD} {k:Int} (h:RenP gF g k):g=gF/\k=0:=by
 have h0:SErr gF 0:=.inr ⟨sL.1,0,oE⟩
 obtain ⟨s,h1,h2⟩:=h
 obtain rfl:=h1.one h0
 rcases h2 with ⟨n,_⟩ | ⟨_,rfl,O,hO,rfl⟩
 ·exact absurd rfl n
 obtain ⟨q1, -,q3,q4, -⟩:=hO.facts
 have q5:∀ b ∈ O,b=0:=fun b hb=>by have h9:b < 1:=q3 b hb;omega
 have:O=[0]:=by
  match O,q1,q4,q5 with
  | [],_,h,_=>simp at h
  | [a],_,_,h=>rw [h a (by simp)]
  | a :: b :: l,h,_,h2 =>
   exfalso
   rw [eD] at h
   exact h.1 (by rw [h2 a (by simp), <-h2 b (by simp)];simp)
 subst this
 exact ⟨by decide,rfl⟩
theorem oX {r:Bool} (h:zQ gF gF r):r=true:=by
 obtain ⟨a,b,k,q,h1,h2,rfl⟩:=h
 obtain ⟨rfl,rfl⟩:=kU h1
 obtain ⟨rfl,rfl⟩:=kU h2
 simp
theorem qU {w:World}:Calls Tryz.prog 13 #[] w fun e w'=>e = .returned (.bool true)/\Below w.heap.size w w':=by
 go_enter Tryz.func13,Tryz.ntmps13
 go_upto_region 2 with (fail)
 have hA_:=(Below.refl w.heap.size w).alloc (aA _) (.cells #[.int .i64 1,.int .i64 0,.slice none 0 0,.int .i64 5] 82)
 have HW:=h! hA_
 clear hA_
 have B0:=h! (Box.new w #[.int .i64 1,.int .i64 0,.slice none 0 0,.int .i64 5] 82)
 have hz0_:(w.alloc (.cells #[.int .i64 1,.int .i64 0,.slice none 0 0,.int .i64 5] 82)).heap.size=w.heap.size+1:=World.size_alloc _ _
 generalize w.alloc (.cells #[.int .i64 1,.int .i64 0,.slice none 0 0,.int .i64 5] 82)=wv0 at *
 have hA_:=(Below.refl wv0.heap.size wv0).alloc (aA _) (.cells #[.slice none 0 0,.slice (some ⟨w.heap.size,0,none⟩) 1 1,.int .i64 3,.int .i64 0,.slice none 0 0,.int .i64 0] 63)
 replace B0:=h! (B0.out.later hA_)
 replace HW:=h! (HW.out.trans (hA_.mono HW.out.size))
 clear hA_
 have B1:=h! (Box.new wv0 #[.slice none 0 0,.slice (some ⟨w.heap.size,0,none⟩) 1 1,.int .i64 3,.int .i64 0,.slice none 0 0,.int .i64 0] 63)
 rw [hz0_] at B1
 have hz1_:(wv0.alloc (.cells #[.slice none 0 0,.slice (some ⟨w.heap.size,0,none⟩) 1 1,.int .i64 3,.int .i64 0,.slice none 0 0,.int .i64 0] 63)).heap.size=w.heap.size+1+1:=by rw [World.size_alloc,hz0_]
 clear hz0_
 generalize wv0.alloc (.cells #[.slice none 0 0,.slice (some ⟨w.heap.size,0,none⟩) 1 1,.int .i64 3,.int .i64 0,.slice none 0 0,.int .i64 0] 63)=wv1 at *
 have hA_:=(Below.refl wv1.heap.size wv1).alloc (aA _) (.cells #[.slice none 0 0,.int .i64 0,.int .i64 0,.slice (some ⟨w.heap.size+1,0,none⟩) 1 1] 25)
 replace B0:=h! (B0.out.later hA_)
 replace B1:=h! (B1.out.later hA_)
 replace HW:=h! (HW.out.trans (hA_.mono HW.out.size))
 clear hA_
 have B2:=h! (Box.new wv1 #[.slice none 0 0,.int .i64 0,.int .i64 0,.slice (some ⟨w.heap.size+1,0,none⟩) 1 1] 25)
 rw [hz1_] at B2
 clear hz1_
 generalize wv1.alloc (.cells #[.slice none 0 0,.int .i64 0,.int .i64 0,.slice (some ⟨w.heap.size+1,0,none⟩) 1 1] 25)=wv at *
 obtain ⟨lB0,cB0,fB0⟩:=B0.out
 obtain ⟨lB1,cB1,fB1⟩:=B1.out
 obtain ⟨lB2,cB2,fB2⟩:=B2.out
 go_wp2_with fail
 refine (yO _ _ _ (jP B0.out B1.out)).mono ?_
 rintro e w2 ⟨g,k,v2,S2,hp,rfl,hO,hF,hb⟩
 obtain ⟨rfl,rfl⟩:=kU hp
 obtain ⟨ax,cx,bx,dx,rfl, -, -, -, -⟩:=hO.reads.form
 have HA:=h! (kE hO hF)
 clear hp hO hF
 obtain ⟨pl,hpl⟩ : ∃ pl,pl=gF.params.length:=⟨_,rfl⟩
 obtain ⟨ar,har⟩ : ∃ ar,ar=gF.arrays:=⟨_,rfl⟩
 obtain ⟨ce,hce⟩ : ∃ ce,ce=gF.cells:=⟨_,rfl⟩
 obtain ⟨bl,hbl⟩ : ∃ bl,bl=gF.blocks.length:=⟨_,rfl⟩
 rw [<-hpl, <-har, <-hce, <-hbl] at HA
 rw [<-hpl, <-har, <-hce, <-hbl]
 clear hpl har hce hbl
 clear lB0 cB0 fB0 lB1 cB1 fB1 lB2 cB2 fB2
 replace B0:=h! (B0.out.later hb)
 replace B1:=h! (B1.out.later hb)
 replace B2:=h! (B2.out.later hb)
 replace HW:=h! (HW.out.trans (hb.mono HW.out.size))
 clear hb
 obtain ⟨lB0,cB0,fB0⟩:=B0.out
 obtain ⟨lB1,cB1,fB1⟩:=B1.out
 obtain ⟨lB2,cB2,fB2⟩:=B2.out
 go_upto_region 3 with (fail)
 replace HA:=h! (HA.out.more (aA _))
 have nB3B0:w2.heap.size ≠ w.heap.size:=fun e=>by have:=lB0;omega
 have nB0B3:w.heap.size ≠ w2.heap.size:=fun e=>nB3B0 e.symm
 have nB3B1:w2.heap.size ≠ w.heap.size+1:=fun e=>by have:=lB1;omega
 have nB1B3:w.heap.size+1 ≠ w2.heap.size:=fun e=>nB3B1 e.symm
 have nB3B2:w2.heap.size ≠ w.heap.size+1+1:=fun e=>by have:=lB2;omega
 have nB2B3:w.heap.size+1+1 ≠ w2.heap.size:=fun e=>nB3B2 e.symm
 clear lB0 cB0 fB0 lB1 cB1 fB1 lB2 cB2 fB2
 have hA_:=(Below.refl w2.heap.size w2).alloc (aA _) (.cells #[.slice ax pl cx,.int .i64 ar,.int .i64 ce,.slice bx bl dx] 25)
 replace B0:=h! (B0.out.later hA_)
 replace B1:=h! (B1.out.later hA_)
 replace B2:=h! (B2.out.later hA_)
 replace HA:=h! (HA.out.later hA_)
 replace HW:=h! (HW.out.trans (hA_.mono HW.out.size))
 clear hA_
 have B3:=h! (Box.new w2 #[.slice ax pl cx,.int .i64 ar,.int .i64 ce,.slice bx bl dx] 25)
 generalize w2.alloc (.cells #[.slice ax pl cx,.int .i64 ar,.int .i64 ce,.slice bx bl dx] 25)=w3 at *
 obtain ⟨lB0,cB0,fB0⟩:=B0.out
 obtain ⟨lB1,cB1,fB1⟩:=B1.out
 obtain ⟨lB2,cB2,fB2⟩:=B2.out
 obtain ⟨lB3,cB3,fB3⟩:=B3.out
 go_wp2_with fail
 refine (yM (jP B0.out B1.out) HA.out.now.reads).mono ?_
 rintro e w4 ⟨he,hb⟩
 rw [decide_eq_true rfl] at he
 subst he
 clear lB0 cB0 fB0 lB1 cB1 fB1 lB2 cB2 fB2 lB3 cB3 fB3
 replace B0:=h! (B0.out.later hb)
 replace B1:=h! (B1.out.later hb)
 replace B2:=h! (B2.out.later hb)
 replace B3:=h! (B3.out.later hb)
 replace HA:=h! (HA.out.later hb)
 replace HW:=h! (HW.out.trans (hb.mono HW.out.size))
 clear hb
 obtain ⟨lB0,cB0,fB0⟩:=B0.out
 obtain ⟨lB1,cB1,fB1⟩:=B1.out
 obtain ⟨lB2,cB2,fB2⟩:=B2.out
 obtain ⟨lB3,cB3,fB3⟩:=B3.out
 go_wp2_with fail
 refine (aEW (jP B0.out B1.out) (jP B0.out B1.out)).mono ?_
 rintro e w5 ⟨r,rfl,hq,hb⟩
 obtain rfl:=oX hq
 clear hq
 clear lB0 cB0 fB0 lB1 cB1 fB1 lB2 cB2 fB2 lB3 cB3 fB3
 replace B0:=h! (B0.out.later hb)
 replace B1:=h! (B1.out.later hb)
 replace B2:=h! (B2.out.later hb)
 replace B3:=h! (B3.out.later hb)
 replace HA:=h! (HA.out.later hb)
 replace HW:=h! (HW.out.trans (hb.mono HW.out.size))
 clear hb
 obtain ⟨lB0,cB0,fB0⟩:=B0.out
 obtain ⟨lB1,cB1,fB1⟩:=B1.out
 obtain ⟨lB2,cB2,fB2⟩:=B2.out
 obtain ⟨lB3,cB3,fB3⟩:=B3.out
 go_wp2
 go_ret
 exact ⟨rfl,HW.out⟩
def IsR (f:FuncD) (w:World) (e:Ending) (w' : World):Prop := ∃ k:Bool,e = .returned (.bool k)/\(k=true ↔ eS f=0/\fZ f 0 0)/\Below w.heap.size w w'
theorem aF2 {w:World} {v:Value} {f:FuncD} (hv:fJ w v f):Calls Tryz.prog 20 #[v] w (IsR f w):=by
 have HV:=h! hv
 obtain ⟨ap,cp,ab,cb,rfl, -, -, -, -⟩:=hv.form
 clear hv
 go_enter Tryz.func20,Tryz.ntmps20
 go_upto_region 1 with (fail)
 have hA_:=(Below.refl w.heap.size w).alloc (aA _) (.cells #[.slice ap f.params.length cp,.int .i64 f.arrays,.int .i64 f.cells,.slice ab f.blocks.length cb] 25)
 have HW:=h! hA_
 clear hA_
 have B1:=h! (Box.new w #[.slice ap f.params.length cp,.int .i64 f.arrays,.int .i64 f.cells,.slice ab f.blocks.length cb] 25)
 generalize w.alloc (.cells #[.slice ap f.params.length cp,.int .i64 f.arrays,.int .i64 f.cells,.slice ab f.blocks.length cb] 25)=wv at *
 obtain ⟨lB1,cB1,fB1⟩:=B1.out
 go_wp2_with fail
 refine (yT (HV.out.below HW.out)).mono ?_
 rintro e w2 ⟨b,g,rfl,h1,h2,hb⟩
 have HS:=h! (SErr.of_check h1 h2)
 clear h1 h2
 clear lB1 cB1 fB1
 replace B1:=h! (B1.out.later hb)
 replace HW:=h! (HW.out.trans (hb.mono HW.out.size))
 clear hb
 obtain ⟨lB1,cB1,fB1⟩:=B1.out
 by_cases hg:g=0
 ·have HG:Hid (eS f=0/\fZ f 0 0):=h! (by have h9:=HS.out;rw [hg] at h9;exact h9.zero)
  have hq:(g == 0)=true:=by simpa using hg
  clear hg
  go_wp2
  go_ret
  exact ⟨true,rfl,⟨fun _=>HG.out,fun _=>rfl⟩,HW.out⟩
 have HG:Hid (¬ (eS f=0/\fZ f 0 0)):=h! (fun h=>hg (HS.out.one (.inr ⟨h.1,0,h.2⟩)))
 have hq:(g == 0)=false:=by simpa using hg
 clear hg
 go_wp2
 go_ret
 exact ⟨false,rfl,⟨fun h=>absurd h (by simp),fun h=>absurd h HG.out⟩,HW.out⟩
end Go.Proofs.YtagabiidbbhhmaaGreat
