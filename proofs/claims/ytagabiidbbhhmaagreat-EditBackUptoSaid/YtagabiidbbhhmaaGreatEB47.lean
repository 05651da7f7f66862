/- Part 47. -/
import Derived.Test.YtagabiidbbhhmaaGreatEB46
import Derived.Test.YtagabiidbbhhmaaGreatEB34
namespace Go.Proofs.YtagabiidbbhhmaaGreat
set_option maxHeartbeats 3200000
set_option linter.all false
open Go.RowKit
def OffF (D:Foot) (w0 W:World):Prop:=Off D w0 W
theorem OffF.later {D:Foot} {w0 W W' : World} (h:OffF D w0 W) (hb:Below W.heap.size W W'):OffF D w0 W':=Off.trans h (Off.of_below hb D)
theorem OffF.alloc {D:Foot} {w0 W:World} (h:OffF D w0 W) (o:Obj):OffF D w0 (W.alloc o):=Off.trans h (Off.alloc D W o)
theorem OffF.other {D:Foot} {w0 W:World} (h:OffF D w0 W) {p:Addr} (v:Value) (hp:D p.block \/ w0.heap.size <= p.block):OffF D w0 (W.setCell p v) :=
 Off.grow h (Off.set W p v) (fun q hq=>by cases hq;exact hp)
private theorem fQ.alloc {w0 W:World} (h:fQ w0 W) (o:Obj):fQ w0 (W.alloc o):=h.later ((Below.refl _ _).alloc (aA _) o)
theorem nF {f:FuncD} {b:Nat} {x:BlockD} (h:f.blocks[b]? = some x):kQ f b=x:=getD_some h
theorem aB0 {f:FuncD} (hc:eS f=0) {x:BlockD} (hx:x ∈ f.blocks):kN x=(gL x).map (·.1):=by
 unfold kN gL
 rw [bC,cI,cI]
 have h1:x.code.filter (fun y=>decide (0 <= y.id))=x.code.filter (fun y=>(shp0 y.op).result != 0):=by
  apply List.filter_congr
  intro y hy
  have:=uG hc x hx y hy
  rw [bU]
  simp only [decide_eq_true_eq,bne_iff_ne]
  exact this
 rw [h1]
 rfl
theorem zM {f:FuncD} (hc:eS f=0):f.blocks.flatMap kN=(lW f).map (·.1):=by
 unfold lW
 rw [dW]
 have:∀ l:List BlockD,(∀ x ∈ l,x ∈ f.blocks) -> l.flatMap kN=l.flatMap fun x=>(gL x).map (·.1):=fun l=>by
  induction l with
  | nil=>intro _;rfl
  | cons x l ih=>intro h;rw [bW,bW,aB0 hc (h x (by simp)),ih fun y hy=>h y (bX _ hy)]
 exact this _ fun x hx=>hx
theorem wI {f:FuncD} {O:List Nat} (hO:fO f O) (hall:∀ d,d < f.blocks.length -> Way (toB f) (-1) d):O.Perm (List.range f.blocks.length):=by
 obtain ⟨h1,h2,h3, -, -⟩:=hO.facts
 rw [List.perm_ext_iff_of_nodup h1 List.nodup_range]
 intro a
 rw [cS]
 exact ⟨h3 a,fun h=>(h2 a).2 (hall a h)⟩
theorem rJ (f:FuncD):(List.range f.blocks.length).flatMap (fun b=>kN (kQ f b))=f.blocks.flatMap kN:=by
 have h:(List.range f.blocks.length).map (kQ f)=f.blocks:=by
  apply bH
  intro i
  rw [aM]
  by_cases hi:i < f.blocks.length
  ·rw [dV hi,aC hi,cN,nF (aC hi)]
  rw [aS (by rw [List.length_range];omega),aS (by omega)];rfl
 have h2:f.blocks.flatMap kN=((List.range f.blocks.length).map (kQ f)).flatMap kN:=by rw [h]
 rw [h2,List.flatMap_map]
theorem tZ {f:FuncD} {O:List Nat} (hc:eS f=0) (hO:fO f O) (hall:∀ d,d < f.blocks.length -> Way (toB f) (-1) d):(idsO f O).Perm ((lW f).map (·.1)):=by
 rw [<-zM hc, <-rJ]
 exact (wI hO hall).flatMap_right _
theorem zN {f:FuncD} {O:List Nat} (hc:eS f=0) (hO:fO f O) (hall:∀ d,d < f.blocks.length -> Way (toB f) (-1) d):Named f.params.length (idsO f O):=by
 have h2:=(fA hc).2
 have hp:=tZ hc hO hall
 refine ⟨?_,fun v hv => ?_⟩
 ·rw [hp.nodup_iff]
  have h3:=nC h2
  rw [bC,bZ] at h3
  exact h3.2.1
 rw [hp.mem_iff,aX] at hv
 obtain ⟨p,hp1,rfl⟩:=hv
 unfold idsF idsB at h2
 rw [aK,bB] at h2
 have h4:=h2.2 p hp1
 simp at h4
 omega
theorem aFH {f:FuncD} {d:Nat} {x:BlockD} (hf:gS f=true) (hx:f.blocks[d]? = some x) {p:PhiD} (hp:p ∈ x.phis):p.src.Nodup/\p.src.length=p.vals.length /\ ∀ q ∈ p.src,0 <= q/\q < f.blocks.length:=by
 refine ⟨?_,((jJ hf).phi x (aG hx) p hp).1,aC3 hf hx hp⟩
 unfold gS at hf
 simp only [aK,bB] at hf
 have h8:=(mG.1 (hf.2 (x,d) (by rw [bT];exact hx))).2.1 p hp
 unfold iL at h8
 simp only [aK,decide_eq_true_eq] at h8
 exact h8.2
theorem zO {f:FuncD} {O Q:List Nat} (h:fO f O) (k:fO f Q):O=Q:=by
 obtain ⟨s,h⟩:=h
 obtain ⟨t,k⟩:=k
 have:=(h.det k).2
 rw [<-List.reverse_reverse O,this,List.reverse_reverse]
def RenP (f g:FuncD) (k:Int):Prop := ∃ s,SErr f s/\((s ≠ 0/\g=kS/\k=s) \/ (s=0/\k=0 /\ ∃ O,fO f O/\g=renF f O))
theorem RenP.one {f g g' : FuncD} {k k' : Int} (h:RenP f g k) (h' : RenP f g' k'):g=g' /\ k=k':=by
 obtain ⟨s,h1,h2⟩:=h
 obtain ⟨s',h3,h4⟩:=h'
 obtain rfl:=h1.one h3
 rcases h2 with ⟨n,rfl,rfl⟩ | ⟨rfl,rfl,O,hO,rfl⟩
 ·rcases h4 with ⟨_,rfl,rfl⟩ | ⟨n2,_⟩
  ·exact ⟨rfl,rfl⟩
  exact absurd n2 n
 rcases h4 with ⟨n2,_⟩ | ⟨_,rfl,Q,hQ,rfl⟩
 ·exact absurd rfl n2
 rw [zO hO hQ];exact ⟨rfl,rfl⟩
theorem qD {f:FuncD} (h:fZ f 0 0):∀ d,d < f.blocks.length -> Way (toB f) (-1) d:=(aBN.1 h).1
def idB (g:Int -> Int) (O:List Nat) (x:BlockD):BlockD:=⟨x.phis.map fun p => { p with id:=g p.id },x.code.map fun y => { y with id:=if 0 <= y.id then g y.id else y.id }, { x.term with to:=x.term.to.map (plO O) }⟩
def wJ (O:List Nat) (p:PhiD):PhiD := { p with src:=jH (p.src.map (plO O)),vals:=(jH (p.src.map (plO O))).map fun q=>(tyOf ((p.src.map (plO O)).zip p.vals) q).getD 0 }
def sY (O:List Nat) (x:BlockD):BlockD := { x with phis:=x.phis.map (wJ O) }
theorem zP (g:Int -> Int) (O:List Nat) (x:BlockD):sY O (mapB g (idB g O x))=renB g O x:=by
 unfold sY mapB idB renB
 simp only [cI,BlockD.mk.injEq]
 refine ⟨?_, ?_, ?_⟩
 ·apply dD;intro p _;rfl
 ·apply dD;intro y _;rfl
 unfold mapT
 simp only
 split <;> rfl
def RenR (f:FuncD) (w:World) (e:Ending) (w' : World):Prop := ∃ (g:FuncD) (k:Int) (v:Value) (S:Foot),RenP f g k/\e = .returned (.tuple #[v,.int .i64 k])/\OFunc w' S v g/\mK w.heap.size S/\Below w.heap.size w w'
def zQ (f g:FuncD) (r:Bool):Prop := ∃ (a b:FuncD) (k h:Int),RenP f a k/\RenP g b h/\r=(((k == 0) && (h == 0)) && decide (a=b))
theorem zR (hren:∀ (W:World) (v:Value) (f:FuncD),fJ W v f -> Calls Tryz.prog 11 #[v] W (RenR f W)) {w:World} {v v' : Value} {f g:FuncD} (hf:fJ w v f) (hg:fJ w v' g) :
  Calls Tryz.prog 15 #[v,v'] w fun e w' => ∃ r,e = .returned (.bool r)/\zQ f g r/\Below w.heap.size w w':=by
 have HF:=h! hf
 have HG:=h! hg
 have HRN:=h! hren
 obtain ⟨ap,cp,ab,cb,rfl, -, -, -, -⟩:=hf.form
 obtain ⟨ap',cp',ab',cb',rfl, -, -, -, -⟩:=hg.form
 clear hf hg hren
 go_enter Tryz.func15,Tryz.ntmps15
 go_upto_region 1 with (fail)
 have hA_:=(Below.refl w.heap.size w).alloc (aA _) (.cells #[.slice ap f.params.length cp,.int .i64 f.arrays,.int .i64 f.cells,.slice ab f.blocks.length cb] 25)
 have HW:=h! hA_
 clear hA_
 have B1:=h! (Box.new w #[.slice ap f.params.length cp,.int .i64 f.arrays,.int .i64 f.cells,.slice ab f.blocks.length cb] 25)
 have hz0_:(w.alloc (.cells #[.slice ap f.params.length cp,.int .i64 f.arrays,.int .i64 f.cells,.slice ab f.blocks.length cb] 25)).heap.size=w.heap.size+1:=World.size_alloc _ _
 generalize w.alloc (.cells #[.slice ap f.params.length cp,.int .i64 f.arrays,.int .i64 f.cells,.slice ab f.blocks.length cb] 25)=wv0 at *
 have hA_:=(Below.refl wv0.heap.size wv0).alloc (aA _) (.cells #[.slice ap' g.params.length cp',.int .i64 g.arrays,.int .i64 g.cells,.slice ab' g.blocks.length cb'] 25)
 replace B1:=h! (B1.out.later hA_)
 replace HW:=h! (HW.out.trans (hA_.mono HW.out.size))
 clear hA_
 have B2:=h! (Box.new wv0 #[.slice ap' g.params.length cp',.int .i64 g.arrays,.int .i64 g.cells,.slice ab' g.blocks.length cb'] 25)
 rw [hz0_] at B2
 clear hz0_
 generalize wv0.alloc (.cells #[.slice ap' g.params.length cp',.int .i64 g.arrays,.int .i64 g.cells,.slice ab' g.blocks.length cb'] 25)=wv at *
 obtain ⟨lB1,cB1,fB1⟩:=B1.out
 obtain ⟨lB2,cB2,fB2⟩:=B2.out
 go_wp2_with fail
 refine (HRN.out _ _ _ (HF.out.below HW.out)).mono ?_
 rintro e w1 ⟨a,k,v1,S1,hP1,rfl,hO1,hF1,hb⟩
 obtain ⟨ax,cx,bx,dx,rfl, -, -, -, -⟩:=hO1.reads.form
 have HP1:=h! hP1
 have HA:=h! (kE hO1 hF1)
 clear hP1 hO1 hF1
 clear lB1 cB1 fB1 lB2 cB2 fB2
 replace B1:=h! (B1.out.later hb)
 replace B2:=h! (B2.out.later hb)
 replace HW:=h! (HW.out.trans (hb.mono HW.out.size))
 clear hb
 obtain ⟨lB1,cB1,fB1⟩:=B1.out
 obtain ⟨lB2,cB2,fB2⟩:=B2.out
 go_upto_region 2 with (fail)
 replace HA:=h! (HA.out.more (aA _))
 have nB3B1:w1.heap.size ≠ w.heap.size:=fun e=>by have:=lB1;omega
 have nB1B3:w.heap.size ≠ w1.heap.size:=fun e=>nB3B1 e.symm
 have nB3B2:w1.heap.size ≠ w.heap.size+1:=fun e=>by have:=lB2;omega
 have nB2B3:w.heap.size+1 ≠ w1.heap.size:=fun e=>nB3B2 e.symm
 clear lB1 cB1 fB1 lB2 cB2 fB2
 have hA_:=(Below.refl w1.heap.size w1).alloc (aA _) (.cells #[.slice ax a.params.length cx,.int .i64 a.arrays,.int .i64 a.cells,.slice bx a.blocks.length dx] 25)
 replace B1:=h! (B1.out.later hA_)
 replace B2:=h! (B2.out.later hA_)
 replace HA:=h! (HA.out.later hA_)
 replace HW:=h! (HW.out.trans (hA_.mono HW.out.size))
 clear hA_
 have B3:=h! (Box.new w1 #[.slice ax a.params.length cx,.int .i64 a.arrays,.int .i64 a.cells,.slice bx a.blocks.length dx] 25)
 generalize w1.alloc (.cells #[.slice ax a.params.length cx,.int .i64 a.arrays,.int .i64 a.cells,.slice bx a.blocks.length dx] 25)=w2 at *
 obtain ⟨lB1,cB1,fB1⟩:=B1.out
 obtain ⟨lB2,cB2,fB2⟩:=B2.out
 obtain ⟨lB3,cB3,fB3⟩:=B3.out
 go_wp2_with fail
 refine (HRN.out _ _ _ (HG.out.below HW.out)).mono ?_
 rintro e w3 ⟨b,h,v2,S2,hP2,rfl,hO2,hF2,hb⟩
 obtain ⟨ay,cy,dy,ey,rfl, -, -, -, -⟩:=hO2.reads.form
 have HP:Hid (RenP f a k/\RenP g b h):=h! ⟨HP1.out,hP2⟩
 have HB:=h! (kE hO2 hF2)
 clear hP2 hO2 hF2
 clear lB1 cB1 fB1 lB2 cB2 fB2 lB3 cB3 fB3
 replace B1:=h! (B1.out.later hb)
 replace B2:=h! (B2.out.later hb)
 replace B3:=h! (B3.out.later hb)
 replace HA:=h! (HA.out.later hb)
 replace HW:=h! (HW.out.trans (hb.mono HW.out.size))
 clear hb
 obtain ⟨lB1,cB1,fB1⟩:=B1.out
 obtain ⟨lB2,cB2,fB2⟩:=B2.out
 obtain ⟨lB3,cB3,fB3⟩:=B3.out
 go_upto_region 3 with (fail)
 replace HA:=h! (HA.out.more (aA _))
 replace HB:=h! (HB.out.more (aA _))
 have nB4B1:w3.heap.size ≠ w.heap.size:=fun e=>by have:=lB1;omega
 have nB1B4:w.heap.size ≠ w3.heap.size:=fun e=>nB4B1 e.symm
 have nB4B2:w3.heap.size ≠ w.heap.size+1:=fun e=>by have:=lB2;omega
 have nB2B4:w.heap.size+1 ≠ w3.heap.size:=fun e=>nB4B2 e.symm
 have nB4B3:w3.heap.size ≠ w1.heap.size:=fun e=>by have:=lB3;omega
 have nB3B4:w1.heap.size ≠ w3.heap.size:=fun e=>nB4B3 e.symm
 clear lB1 cB1 fB1 lB2 cB2 fB2 lB3 cB3 fB3
 have hA_:=(Below.refl w3.heap.size w3).alloc (aA _) (.cells #[.slice ay b.params.length cy,.int .i64 b.arrays,.int .i64 b.cells,.slice dy b.blocks.length ey] 25)
 replace B1:=h! (B1.out.later hA_)
 replace B2:=h! (B2.out.later hA_)
 replace B3:=h! (B3.out.later hA_)
 replace HA:=h! (HA.out.later hA_)
 replace HB:=h! (HB.out.later hA_)
 replace HW:=h! (HW.out.trans (hA_.mono HW.out.size))
 clear hA_
 have B4:=h! (Box.new w3 #[.slice ay b.params.length cy,.int .i64 b.arrays,.int .i64 b.cells,.slice dy b.blocks.length ey] 25)
 generalize w3.alloc (.cells #[.slice ay b.params.length cy,.int .i64 b.arrays,.int .i64 b.cells,.slice dy b.blocks.length ey] 25)=w4 at *
 obtain ⟨lB1,cB1,fB1⟩:=B1.out
 obtain ⟨lB2,cB2,fB2⟩:=B2.out
 obtain ⟨lB3,cB3,fB3⟩:=B3.out
 obtain ⟨lB4,cB4,fB4⟩:=B4.out
 obtain ⟨r,hr⟩ : ∃ r,r=decide (a=b):=⟨_,rfl⟩
 have HRR:=h! hr
 clear hr
 cases hk:(k == 0)
 ·have HR:Hid (false=(((k == 0) && (h == 0)) && decide (a=b))):=h! (by rw [hk];rfl)
  go_wp2
  go_ret
  exact ⟨_,rfl,⟨a,b,k,h,HP.out.1,HP.out.2,HR.out⟩,HW.out⟩
 cases hh:(h == 0)
 ·have HR:Hid (false=(((k == 0) && (h == 0)) && decide (a=b))):=h! (by rw [hk,hh];rfl)
  go_wp2
  go_ret
  exact ⟨_,rfl,⟨a,b,k,h,HP.out.1,HP.out.2,HR.out⟩,HW.out⟩
 have HR:Hid (r=(((k == 0) && (h == 0)) && decide (a=b))):=h! (by rw [hk,hh,HRR.out];rfl)
 go_wp2_with fail
 refine (aBL HA.out.now.reads HB.out.now.reads).mono ?_
 rintro e w5 ⟨rfl,hb⟩
 rw [<-HRR.out]
 clear lB1 cB1 fB1 lB2 cB2 fB2 lB3 cB3 fB3 lB4 cB4 fB4
 replace B1:=h! (B1.out.later hb)
 replace B2:=h! (B2.out.later hb)
 replace B3:=h! (B3.out.later hb)
 replace B4:=h! (B4.out.later hb)
 replace HA:=h! (HA.out.later hb)
 replace HB:=h! (HB.out.later hb)
 replace HW:=h! (HW.out.trans (hb.mono HW.out.size))
 clear hb
 obtain ⟨lB1,cB1,fB1⟩:=B1.out
 obtain ⟨lB2,cB2,fB2⟩:=B2.out
 obtain ⟨lB3,cB3,fB3⟩:=B3.out
 obtain ⟨lB4,cB4,fB4⟩:=B4.out
 go_wp2
 go_ret
 exact ⟨_,rfl,⟨a,b,k,h,HP.out.1,HP.out.2,HR.out⟩,HW.out⟩
def uA (f:FuncD) (w:World) (e:Ending) (w' : World):Prop := ∃ (O:List Nat) (v:Value) (S:Foot),fO f O/\e = .returned v/\OFunc w' S v (renF f O)/\mK w.heap.size S/\Below w.heap.size w w'
theorem wK (hren:∀ (W:World) (v:Value) (f:FuncD),fJ W v f -> eS f=0 -> fZ f 0 0 -> Calls Tryz.prog 37 #[v] W (uA f W)) {w:World} {v:Value} {f:FuncD} (hv:fJ w v f) :
  Calls Tryz.prog 11 #[v] w (RenR f w):=by
 have HV:=h! hv
 have HRN:=h! hren
 obtain ⟨ap,cp,ab,cb,rfl, -, -, -, -⟩:=hv.form
 clear hv hren
 go_enter Tryz.func11,Tryz.ntmps11
 go_upto_region 1 with (fail)
 have hA_:=(Below.refl w.heap.size w).alloc (aA _) (.cells #[.slice ap f.params.length cp,.int .i64 f.arrays,.int .i64 f.cells,.slice ab f.blocks.length cb] 25)
 have HW:=h! hA_
 clear hA_
 have B1:=h! (Box.new w #[.slice ap f.params.length cp,.int .i64 f.arrays,.int .i64 f.cells,.slice ab f.blocks.length cb] 25)
 have hz0_:(w.alloc (.cells #[.slice ap f.params.length cp,.int .i64 f.arrays,.int .i64 f.cells,.slice ab f.blocks.length cb] 25)).heap.size=w.heap.size+1:=World.size_alloc _ _
 generalize w.alloc (.cells #[.slice ap f.params.length cp,.int .i64 f.arrays,.int .i64 f.cells,.slice ab f.blocks.length cb] 25)=wv0 at *
 have hA_:=(Below.refl wv0.heap.size wv0).alloc (aA _) (.cells #[.slice none 0 0,.int .i64 0,.int .i64 0,.slice none 0 0] 25)
 replace B1:=h! (B1.out.later hA_)
 replace HW:=h! (HW.out.trans (hA_.mono HW.out.size))
 clear hA_
 have B2:=h! (Box.new wv0 #[.slice none 0 0,.int .i64 0,.int .i64 0,.slice none 0 0] 25)
 rw [hz0_] at B2
 clear hz0_
 generalize wv0.alloc (.cells #[.slice none 0 0,.int .i64 0,.int .i64 0,.slice none 0 0] 25)=wv at *
 obtain ⟨lB1,cB1,fB1⟩:=B1.out
 obtain ⟨lB2,cB2,fB2⟩:=B2.out
 go_wp2_with fail
 refine (aE2 (HV.out.below HW.out)).mono ?_
 rintro e w1 ⟨bq,g,rfl,h1,h2,hb⟩
 have HS:=h! (SErr.of_check h1 h2)
 clear h1 h2
 clear lB1 cB1 fB1 lB2 cB2 fB2
 replace B1:=h! (B1.out.later hb)
 replace B2:=h! (B2.out.later hb)
 replace HW:=h! (HW.out.trans (hb.mono HW.out.size))
 clear hb
 obtain ⟨lB1,cB1,fB1⟩:=B1.out
 obtain ⟨lB2,cB2,fB2⟩:=B2.out
 by_cases hg:g=0
 rotate_left
 ·have HWHY:Hid (RenP f kS g):=h! ⟨g,HS.out,.inl ⟨hg,rfl,rfl⟩⟩
  have hc1:(g != 0)=true:=by simpa using hg
  clear hg
  go_wp2
  clear lB1 cB1 fB1 lB2 cB2 fB2
  have hO_:=((((Only.set w1 (w.heap.size+1) 0 (.slice none 0 0)).put 1 (.int .i64 0)).put 2 (.int .i64 0)).put 3 (.slice none 0 0))
  replace B1:=h! (B1.out.only hO_ (by first | assumption | (simp;done) | omega))
  replace HW:=h! (hO_.2.2 HW.out (by first | assumption | omega | (have:=HW.out.size;omega) | (simp;done) | (simp;omega)))
  replace B2:=h! (Box.to (A':=#[(.slice none 0 0),(.int .i64 0),(.int .i64 0),(.slice none 0 0)]) ((((B2.out.set 0 (.slice none 0 0)).set 1 (.int .i64 0)).set 2 (.int .i64 0)).set 3 (.slice none 0 0)) (by first | rfl | simp))
  clear hO_
  generalize ((((w1.setCell ⟨w.heap.size+1,0,none⟩ (.slice none 0 0)).setCell ⟨w.heap.size+1,1,none⟩ (.int .i64 0)).setCell ⟨w.heap.size+1,2,none⟩ (.int .i64 0)).setCell ⟨w.heap.size+1,3,none⟩ (.slice none 0 0))=wz at *
  obtain ⟨lB1,cB1,fB1⟩:=B1.out
  obtain ⟨lB2,cB2,fB2⟩:=B2.out
  refine bodyPost_ret (v:=.tuple #[.agg #[.slice none 0 0,.int .i64 0,.int .i64 0,.slice none 0 0],.int .i64 g]) (by simp [results,Tryz.results11,go_sem, *]) rfl ⟨kS,g,_,Foot.none,HWHY.out,rfl,OFunc.zero,fun _ h=>h.elim,HW.out⟩
 subst hg
 have HZ:=h! HS.out.zero
 go_wp2_with fail
 refine (HRN.out _ _ _ (HV.out.below HW.out) HZ.out.1 HZ.out.2).mono ?_
 rintro e w2 ⟨O,v1,S1,hO,rfl,hO1,hF1,hb⟩
 obtain ⟨ax,cx,bx,dx,rfl, -, -, -, -⟩:=hO1.reads.form
 have HR:Hid (RenP f (renF f O) 0):=h! ⟨0,HS.out,.inr ⟨rfl,rfl,O,hO,rfl⟩⟩
 have HA:=h! (((kE hO1 hF1).from (base':=w.heap.size+1+1) (by omega)).low (bs':=[w.heap.size,w.heap.size+1]) (by intro z hz;simp at hz;omega))
 clear hO hO1 hF1
 clear lB1 cB1 fB1 lB2 cB2 fB2
 replace B1:=h! (B1.out.later hb)
 replace B2:=h! (B2.out.later hb)
 replace HW:=h! (HW.out.trans (hb.mono HW.out.size))
 clear hb
 obtain ⟨lB1,cB1,fB1⟩:=B1.out
 obtain ⟨lB2,cB2,fB2⟩:=B2.out
 go_wp2
 clear lB1 cB1 fB1 lB2 cB2 fB2
 have hO_:=((((Only.set w2 (w.heap.size+1) 0 (.slice ax (renF f O).params.length cx)).put 1 (.int .i64 (renF f O).arrays)).put 2 (.int .i64 (renF f O).cells)).put 3 (.slice bx (renF f O).blocks.length dx))
 replace B1:=h! (B1.out.only hO_ (by first | assumption | (simp;done) | omega))
 replace HA:=h! ((((HA.out.other (p:=⟨w.heap.size+1,0,none⟩) (.slice ax (renF f O).params.length cx) (by simp)).other (p:=⟨w.heap.size+1,1,none⟩) (.int .i64 (renF f O).arrays) (by simp)).other (p:=⟨w.heap.size+1,2,none⟩) (.int .i64 (renF f O).cells) (by simp)).other (p:=⟨w.heap.size+1,3,none⟩) (.slice bx (renF f O).blocks.length dx) (by simp))
 replace HW:=h! (hO_.2.2 HW.out (by first | assumption | omega | (have:=HW.out.size;omega) | (simp;done) | (simp;omega)))
 replace B2:=h! (Box.to (A':=#[(.slice ax (renF f O).params.length cx),(.int .i64 (renF f O).arrays),(.int .i64 (renF f O).cells),(.slice bx (renF f O).blocks.length dx)]) ((((B2.out.set 0 (.slice ax (renF f O).params.length cx)).set 1 (.int .i64 (renF f O).arrays)).set 2 (.int .i64 (renF f O).cells)).set 3 (.slice bx (renF f O).blocks.length dx)) (by first | rfl | simp))
 clear hO_
 generalize ((((w2.setCell ⟨w.heap.size+1,0,none⟩ (.slice ax (renF f O).params.length cx)).setCell ⟨w.heap.size+1,1,none⟩ (.int .i64 (renF f O).arrays)).setCell ⟨w.heap.size+1,2,none⟩ (.int .i64 (renF f O).cells)).setCell ⟨w.heap.size+1,3,none⟩ (.slice bx (renF f O).blocks.length dx))=wz at *
 obtain ⟨lB1,cB1,fB1⟩:=B1.out
 obtain ⟨lB2,cB2,fB2⟩:=B2.out
 refine bodyPost_ret (v:=.tuple #[.agg #[.slice ax (renF f O).params.length cx,.int .i64 (renF f O).arrays,.int .i64 (renF f O).cells,.slice bx (renF f O).blocks.length dx],.int .i64 0]) (by simp [results,Tryz.results11,go_sem, *]) rfl ⟨_,0,_,S1,HR.out,rfl,HA.out.now,fun k hk=>by have:=HA.out.base k hk;omega,HW.out⟩
theorem aB1 {w:World} {mb:Nat} {T:List (Int × Int)} (hm:IMap w mb (encT T)) (ty:TypeId):(Builtin.len_ #[93] ty #[.map (some mb)]).run Tryz.prog w = .ok (.int .i64 (T.length:Int)) w:=by
 obtain ⟨es,c,hh,hes, -⟩:=hm.ex
 have h1:=congrArg List.length hes
 simp only [bE,encT,Array.length_toList] at h1
 rw [run_len_map (P:=Tryz.prog) (w:=w) (t:=93) (ty:=ty) (r:=mb) (es:=es) (clock:=c) (by kernel_rfl) hh,h1]
 rfl
theorem wL:Enters Tryz.prog 74:=enters_of Tryz.func74 (by kernel_rfl) rfl
theorem pF:Enters Tryz.prog 73:=enters_of Tryz.func73 (by kernel_rfl) rfl
theorem aFI {w:World} {p mb:Nat} {T:List (Int × Int)} {v:Int} (hp:Box w p #[.map (some mb)]) (hm:IMap w mb (encT T)) :
  Calls Tryz.prog 74 #[.int .i64 v,.pointer (some ⟨p,0,none⟩)] w fun e w'=>e = .returned (.int .i64 ((tyOf T v).getD 0))/\Below w.heap.size w w':=by
 obtain ⟨l1,c1,f1⟩:=hp
 obtain ⟨t,ht⟩ : ∃ t,t=(tyOf T v).getD 0:=⟨_,rfl⟩
 have hlk:(Instr.lookup 93 (.map (some mb)) (.int .i64 v) false).run Tryz.prog w = .ok (.int .i64 t) w:=by
  rw [hm.lookup0 Tryz.underlying93 Tryz.underlying3 (gP _) v,jF,ht]
  cases tyOf T v <;> rfl
 rw [<-ht]
 clear ht hm
 go_enter Tryz.func74,Tryz.ntmps74
 go_wp2
 go_ret
 exact ⟨rfl,Below.refl _ _⟩
set_option maxRecDepth 100000 in
theorem aCZ {w:World} {p mb:Nat} {T:List (Int × Int)} {v:Int} (hp:Box w p #[.map (some mb)]) (hm:IMap w mb (encT T)) (hn:tyOf T v=none) (hpm:p ≠ mb) :
  Calls Tryz.prog 73 #[.int .i64 v,.pointer (some ⟨p,0,none⟩)] w fun e w'=>e = .returned (.int .i64 (T.length:Int))/\IMap w' mb (encT (T ++ [(v,(T.length:Int))]))/\Turn [mb] w w':=by
 have HP:=h! hp
 obtain ⟨l1,c1,f1⟩:=hp
 have HM:=h! hm
 have HN:=h! hn
 have HPM:=h! hpm
 have hlk:(Instr.lookup 93 (.map (some mb)) (.int .i64 v) true).run Tryz.prog w = .ok (.tuple #[.int .i64 0,.bool false]) w:=by
  rw [hm.lookup Tryz.underlying93 Tryz.underlying3 (gP _) v,jF,hn];rfl
 have hln:=aB1 hm
 obtain ⟨n,hn'⟩ : ∃ n:Nat,n=T.length:=⟨_,rfl⟩
 rw [<-hn'] at hln ⊢
 have HNN:=h! hn'
 clear hm hn hpm hn'
 go_enter Tryz.func73,Tryz.ntmps73
 go_upto_region 4 with (at_mapUpdate;refine fT (q:=.i64) (b:=mb) rfl _ _ _ _ (.inl rfl) Tryz.underlying93 Tryz.underlying3 rfl HM.out rfl ?_;intro w2 h1 h2 h3)
 have HT2:=h! h3
 have HM2:Hid (IMap w2 mb (encT (T ++ [(v,(n:Int))]))):=h! (by rw [<-mH HN.out];exact h1)
 have HP2:=h! (HP.out.turn h3 (by simpa using HPM.out))
 have hlk2:(Instr.lookup 93 (.map (some mb)) (.int .i64 v) false).run Tryz.prog w2 = .ok (.int .i64 (n:Int)) w2:=by
  rw [HM2.out.lookup0 Tryz.underlying93 Tryz.underlying3 (gP _) v,jF,lV,HN.out]
  simp [tyOf]
 clear h1 h2 h3 l1 c1 f1 hlk hln
 obtain ⟨l1,c1,f1⟩:=HP2.out
 go_wp2
 go_ret
 exact ⟨rfl,HM2.out,HT2.out⟩
theorem gI.ident {W:World} {S:Foot} {v:Value} {ps:List PhiD} (h:gI W S v ps) {j:Nat} {p:PhiD} (hj:ps[j]? = some p) {g cap:Nat} (hv:v = .slice (some ⟨g,0,none⟩) ps.length cap) {y:Int} (hy:In64 y) :
  gI (W.setCell ⟨g,j * 4,none⟩ (.int .i64 y)) S v (ps.set j { p with id:=y }):=by
 obtain ⟨cs,G,F,hp⟩:=h
 have hjl:=(aD.1 hj).1
 have hn:0 < ps.length:=by omega
 have hG:G g:=by
  obtain ⟨g',cap',hv',hg', -⟩:=hp.row.addr hn
  rw [hv] at hv';cases hv';exact hg'
 obtain ⟨⟨a,b,Sf,Sv,hch,h1,h2,h12,i1,i2⟩,hFl,q1,q2⟩:=hp.el j p hj
 have hoff:=Off.set W ⟨g,j * 4+0,none⟩ (.int .i64 y)
 have hFi:∀ k,F j k -> k ≠ g:=fun k hk e=>hp.free j hjl k hk (by rw [e];exact hG)
 have hnew:OPhi (W.setCell ⟨g,j * 4+0,none⟩ (.int .i64 y)) (F j) (iO (cs.set (j * 4+0) (.int .i64 y)) 4 j) { p with id:=y }:=by
  rw [fD (by omega),hch]
  exact ⟨⟨a,b,Sf,Sv,rfl,h1.off hoff (fun k hk e=>hFi k (i1 k hk) e),h2.off hoff (fun k hk e=>hFi k (i2 k hk) e),h12,i1,i2⟩,fun k hk=>by simpa [World.setCell] using hFl k hk,hy,q2⟩
 exact ⟨_,G,_,hp.put OPhi.nice hj _ (Fj:=F j) (hoff.mono fun k _ hk=>by cases hk;exact .inl hG) (hp.row.set hv (by omega) (j * 4+0) _) (fun q hq hne=>iC hne (by omega)) hnew (fun k hk=>.inl hk) S (fun k hk=>hk) (fun k hk=>hp.inF j k hjl hk) (fun k hk=>by simpa [World.setCell] using hp.lt k hk)⟩
theorem iN.ident {W:World} {S:Foot} {v:Value} {ys:List InstrD} (h:iN W S v ys) {j:Nat} {p:InstrD} (hj:ys[j]? = some p) {g cap:Nat} (hv:v = .slice (some ⟨g,0,none⟩) ys.length cap) {y:Int} (hy:In64 y) :
  iN (W.setCell ⟨g,j * 4+1,none⟩ (.int .i64 y)) S v (ys.set j { p with id:=y }):=by
 obtain ⟨cs,G,F,hp⟩:=h
 have hjl:=(aD.1 hj).1
 have hn:0 < ys.length:=by omega
 have hG:G g:=by
  obtain ⟨g',cap',hv',hg', -⟩:=hp.row.addr hn
  rw [hv] at hv';cases hv';exact hg'
 have hlt:∀ k,F j k -> k < W.heap.size:=fun k hk=>hp.lt k (hp.inF j k hjl hk)
 obtain ⟨⟨a,hch,h1⟩,q1,q2,q3⟩:=hp.el j p hj
 have hoff:=Off.set W ⟨g,j * 4+1,none⟩ (.int .i64 y)
 have hFi:∀ k,F j k -> k ≠ g:=fun k hk e=>hp.free j hjl k hk (by rw [e];exact hG)
 have hnew:OInstr (W.setCell ⟨g,j * 4+1,none⟩ (.int .i64 y)) (F j) (iO (cs.set (j * 4+1) (.int .i64 y)) 4 j) { p with id:=y }:=by
  rw [fD (by omega),hch]
  exact ⟨⟨a,rfl,h1.off hoff (fun k hk e=>hFi k hk e)⟩,q1,hy,q3⟩
 exact ⟨_,G,_,hp.put OInstr.nice hj _ (Fj:=F j) (hoff.mono fun k _ hk=>by cases hk;exact .inl hG) (hp.row.set hv (by omega) (j * 4+1) _) (fun q hq hne=>iC hne (by omega)) hnew (fun k hk=>.inl hk) S (fun k hk=>hk) (fun k hk=>hp.inF j k hjl hk) (fun k hk=>by simpa [World.setCell] using hp.lt k hk)⟩
theorem gI.both {W:World} {S:Foot} {v:Value} {ps:List PhiD} (h:gI W S v ps) {j:Nat} {p:PhiD} (hj:ps[j]? = some p) :
  ∃ (g cap:Nat) (af av:Option Addr) (cf cv:Nat) (Sf Sv:Foot),v = .slice (some ⟨g,0,none⟩) ps.length cap/\g < W.heap.size/\S g/\PhiC W g (j * 4) p af av cf cv/\(∀ o,W.frozen? ⟨g,o,none⟩=false) /\
   eV W Sf (.slice af p.src.length cf) p.src/\eV W Sv (.slice av p.vals.length cv) p.vals/\Sf.off Sv/\(∀ k,Sf k -> S k)/\(∀ k,Sv k -> S k) /\ ¬ Sf g /\ ¬ Sv g /\
   (∀ (W' : World) (src vals:List Int),Off (Sf.or Sv) W W' -> eV W' Sf (.slice af p.src.length cf) src -> eV W' Sv (.slice av p.vals.length cv) vals -> gI W' S v (ps.set j { p with src:=src,vals:=vals })):=by
 obtain ⟨cs,G,F,hp⟩:=h
 have hjl:=(aD.1 hj).1
 obtain ⟨g,cap,hv,hG, -, -,hgl,hcell,hfr⟩:=hp.row.addr (by omega)
 obtain ⟨⟨a,b,Sf,Sv,hch,h1,h2,h12,i1,i2⟩,hFl,q1,q2⟩:=hp.el j p hj
 obtain ⟨af,cf,rfl⟩:=h1.ints.form
 obtain ⟨av,cv,rfl⟩:=h2.ints.form
 have hc:∀ o u,o < 4 -> (iO cs 4 j)[o]? = some u -> W.cell? ⟨g,j * 4+o,none⟩=some u:=fun o u ho hu=>hcell _ _ (by rw [<-jI ho];exact hu)
 rw [hch] at hc
 have nG:∀ k,F j k -> ¬ G k:=hp.free j hjl
 have inS:∀ k,F j k -> S k:=fun k hk=>hp.inF j k hjl hk
 refine ⟨g,cap,af,av,cf,cv,Sf,Sv,hv,hgl,hp.inG g hG,⟨hc 0 _ (by omega) rfl,hc 1 _ (by omega) rfl,hc 2 _ (by omega) rfl,hc 3 _ (by omega) rfl,h1.ints,h2.ints,q1,q2⟩,hfr,h1,h2,h12,fun k hk=>inS k (i1 k hk),fun k hk=>inS k (i2 k hk),fun hk=>nG g (i1 g hk) hG,fun hk=>nG g (i2 g hk) hG,fun W' src vals ho hs ha => ?_⟩
 have ho2:Off (G.or (F j)) W W':=ho.mono fun k _ hk=>.inr (hk.elim (i1 k) (i2 k))
 have hlt:∀ k,S k -> k < W'.heap.size:=fun k hk=>bA (hp.lt k hk) ho.size
 refine ⟨cs,G,_,hp.put OPhi.nice hj { p with src:=src,vals:=vals } (Fj:=F j) ho2 (hp.row.off ho fun k h1 h2=>nG k (h2.elim (i1 k) (i2 k)) h1) (fun _ _ _=>rfl) ?_ (fun k hk=>.inl hk) S (fun k hk=>hk) (fun k hk=>inS k hk) hlt⟩
 rw [hch]
 exact ⟨⟨_,_,Sf,Sv,rfl,hs,ha,h12,i1,i2⟩,fun k hk=>hlt k (inS k hk),q1,q2⟩
end Go.Proofs.YtagabiidbbhhmaaGreat
