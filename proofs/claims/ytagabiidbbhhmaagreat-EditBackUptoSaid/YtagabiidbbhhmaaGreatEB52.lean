/- Part 52. -/
import Derived.Test.YtagabiidbbhhmaaGreatEB50
import Derived.Test.YtagabiidbbhhmaaGreatEB51
namespace Go.Proofs.YtagabiidbbhhmaaGreat
set_option linter.all false
open Go.RowKit
private theorem fQ.alloc {w0 W:World} (h:fQ w0 W) (o:Obj):fQ w0 (W.alloc o):=h.later ((Below.refl _ _).alloc (aA _) o)
def idU (g:Int -> Int) (u:UseD):UseD := { u with id:=g u.id }
theorem aC6 (g:Int -> Int) (i:Nat) (p:PhiD):uxP i (mapP g p)=(uxP i p).map (idU g):=by
 unfold uxP mapP
 simp only [List.zip_map_left,cI]
 rfl
theorem aC7 (g:Int -> Int) (i:Nat) (x:InstrD) (k:Nat):uxI i (mapX g x,k)=(uxI i (x,k)).map (idU g):=by
 unfold uxI mapX
 simp only [List.zip_map_left,cI]
 rfl
theorem aC8 (g:Int -> Int) (i:Nat) (x:BlockD):uxT i (mapB g x)=(uxT i x).map (idU g):=by
 unfold uxT mapB mapT
 by_cases h2:x.term.op=2
 ·simp [h2,idU]
 by_cases h3:x.term.op=3
 ·simp [h3,idU]
 simp [h2,h3]
theorem aC9 (g:Int -> Int) (x:BlockD) (i:Nat):uxB (mapB g x,i)=(uxB (x,i)).map (idU g):=by
 have h1:(mapB g x).phis.flatMap (uxP i)=(x.phis.flatMap (uxP i)).map (idU g):=by
  show (x.phis.map (mapP g)).flatMap (uxP i)=_
  rw [List.flatMap_map,dW]
  simp only [aC6]
 have h2:(mapB g x).code.zipIdx.flatMap (uxI i)=(x.code.zipIdx.flatMap (uxI i)).map (idU g):=by
  show (x.code.map (mapX g)).zipIdx.flatMap (uxI i)=_
  rw [List.zipIdx_map,List.flatMap_map,dW]
  congr 1
  funext z
  exact aC7 g i z.1 z.2
 unfold uxB
 simp only [bC]
 rw [h1,h2,aC8]
theorem sK (g:Int -> Int) (f:FuncD):uxF (mapF g f)=(uxF f).map (idU g):=by
 show (f.blocks.map (mapB g)).zipIdx.flatMap uxB=(f.blocks.zipIdx.flatMap uxB).map (idU g)
 rw [List.zipIdx_map,List.flatMap_map,dW]
 congr 1
 funext z
 exact aC9 g z.1 z.2
theorem xT (f:FuncD) (x:Int):mapF (lR x x) f=f:=by
 have h:lR x x=id:=by
  funext v
  unfold lR
  split
  ·rename_i e;exact e.symm
  rfl
 rw [h]
 have hb:mapB id=id:=by
  funext y
  unfold mapB mapT
  have h1:mapP id=id:=by funext p;simp [mapP]
  have h2:mapX id=id:=by funext p;simp [mapX]
  rw [h1,h2]
  simp
 unfold mapF
 rw [hb]
 simp
theorem aBC {f:FuncD} (h:Even f) (g:Int -> Int):Even (mapF g f):=by
 refine ⟨fun b hb p hp => ?_,fun b hb x hx => ?_, ?_, ?_⟩
 ·obtain ⟨b0,h0,rfl⟩:=aX.1 hb
  obtain ⟨p0,h1,rfl⟩:=aX.1 hp
  have h2:=h.phi b0 h0 p0 h1
  simp only [mapP,bE]
  exact h2
 ·obtain ⟨b0,h0,rfl⟩:=aX.1 hb
  obtain ⟨x0,h1,rfl⟩:=aX.1 hx
  have h2:=h.args b0 h0 x0 h1
  simp only [mapX,bE]
  exact h2
 ·have h3:jV (mapF g f)=jV f:=by
   unfold jV mapF
   simp only [cI]
   congr 2
   funext b
   simp [gK,mapB,Function.comp]
  rw [h3];exact h.size
 show (f.blocks.map (mapB g)).length <= 512
 rw [bE];exact h.len
theorem xU {x y:Int} (h:x ≠ y) (T:List UseD):(T.map (idU (lR x y))).countP (fun u=>u.id == x)=0:=by
 rw [List.countP_eq_zero]
 intro u hu
 obtain ⟨v, -,rfl⟩:=aX.1 hu
 simp only [idU,lR]
 split
 ·simpa using fun e=>h e.symm
 rename_i e;simpa using e
theorem xV {x y:Int} (T:List UseD):(T.map (idU (lR x y))).countP (fun u=>u.id == y)=T.countP (fun u=>u.id == x || u.id == y):=by
 rw [List.countP_map]
 apply List.countP_congr
 intro u _
 simp only [Function.comp,idU,lR]
 split
 ·rename_i e;simp [e]
 rename_i e;simp [e]
theorem aBD {f:FuncD} {x y:Int} {g:FuncD} {k:Int} (hc:eS f=0) (hr:fZ f 0 0) (hx:(tyOf (eQ f) x).isSome=true) (hy:(tyOf (eQ f) y).isSome=true) (h:oC f x y g k):k=3 \/ k=0/\g=mapF (lR x y) f:=by
 obtain ⟨s,h1,h2⟩:=h
 obtain rfl:=h1.one (.inr ⟨hc,0,hr⟩)
 rcases h2 with ⟨n, -⟩ | ⟨-,h2⟩
 ·exact absurd rfl n
 unfold vS at h2
 rw [if_neg (by simp [hx,hy])] at h2
 split at h2
 ·exact .inl (congrArg Prod.snd h2)
 exact .inr ⟨congrArg Prod.snd h2,congrArg Prod.fst h2⟩
theorem tQ {f:FuncD} {S:List Int} (h:IdsS f.params.length (eQ f) (eQ f).length S) {x:Int} (hx:x ∈ S):(tyOf (eQ f) x).isSome=true:=by
 have h1:=(h.mem x).1 hx
 rw [cO,aX] at h1
 obtain ⟨p,h2,h3⟩:=h1
 unfold tyOf
 rw [Option.isSome_map,List.find?_isSome]
 exact ⟨p,h2,by simpa using h3⟩
set_option maxHeartbeats 12800000 in
set_option maxRecDepth 100000 in
theorem aBE {w:World} {v:Value} (f:FuncD) {a b:Int} (hv:fJ w v f) (ha:0 <= a/\a <= 65535) (hb2:0 <= b/\b <= 65535) (hsm:(eQ f).length <= 4398046511103) :
  Calls Tryz.prog 5 #[v,.int .u16 a,.int .u16 b] w fun e w'=>e = .returned (.bool true)/\Below w.heap.size w w':=by
 have HV:=h! hv
 have HSM:=h! hsm
 obtain ⟨ap,cp,ab,cb,rfl, -, -, -, -⟩:=hv.form
 obtain ⟨an,rfl⟩ : ∃ an:Nat,a=(an:Int):=⟨a.toNat,by omega⟩
 obtain ⟨bn,rfl⟩ : ∃ bn:Nat,b=(bn:Int):=⟨b.toNat,by omega⟩
 clear hv hsm
 go_enter Tryz.func5,Tryz.ntmps5
 go_upto_region 1 with (fail)
 have hA_:=(Below.refl w.heap.size w).alloc (aA _) (.cells #[.slice ap f.params.length cp,.int .i64 f.arrays,.int .i64 f.cells,.slice ab f.blocks.length cb] 25)
 have HW:=h! hA_
 clear hA_
 have B3:=h! (Box.new w #[.slice ap f.params.length cp,.int .i64 f.arrays,.int .i64 f.cells,.slice ab f.blocks.length cb] 25)
 generalize w.alloc (.cells #[.slice ap f.params.length cp,.int .i64 f.arrays,.int .i64 f.cells,.slice ab f.blocks.length cb] 25)=wv at *
 obtain ⟨lB3,cB3,fB3⟩:=B3.out
 go_wp2_with fail
 refine (aDK (HV.out.below HW.out) HSM.out).mono ?_
 rintro e w1 ⟨hb,hq⟩
 rcases hq with ⟨hi,rfl⟩ | ⟨hi,u,S,rfl,hN,hS⟩
 ·dsimp only
  clear lB3 cB3 fB3
  replace B3:=h! (B3.out.later hb)
  replace HW:=h! (HW.out.trans (hb.mono HW.out.size))
  clear hb
  obtain ⟨lB3,cB3,fB3⟩:=B3.out
  go_wp2_with fail
  refine qU.mono ?_
  rintro e w2 ⟨rfl,hb⟩
  clear lB3 cB3 fB3
  replace B3:=h! (B3.out.later hb)
  replace HW:=h! (HW.out.trans (hb.mono HW.out.size))
  clear hb
  obtain ⟨lB3,cB3,fB3⟩:=B3.out
  --@A
  go_wp2_with fail
  refine qU.mono ?_
  rintro e wz ⟨rfl,hb⟩
  clear lB3 cB3 fB3
  replace B3:=h! (B3.out.later hb)
  replace HW:=h! (HW.out.trans (hb.mono HW.out.size))
  clear hb
  obtain ⟨lB3,cB3,fB3⟩:=B3.out
  go_wp2
  go_ret
  exact ⟨rfl,HW.out⟩
 ·dsimp only
  obtain ⟨ua,uc,rfl⟩:=qI hN.own
  obtain ⟨sl,hsl⟩ : ∃ sl,sl=S.length:=⟨_,rfl⟩
  have hsl2:sl <= 17592186044416:=by rw [hsl];exact hN.le
  have HSL:=h! hsl
  have HIN:=h! hN.ints
  have HS:=h! hS
  have HRI:Hid (fQ w1 w1):=h! (Below.refl _ _)
  rw [<-hsl] at HIN ⊢
  clear hsl hN hS hi
  clear lB3 cB3 fB3
  replace B3:=h! (B3.out.later hb)
  replace HW:=h! (HW.out.trans (hb.mono HW.out.size))
  clear hb
  obtain ⟨lB3,cB3,fB3⟩:=B3.out
  go_wp2_with fail
  refine qU.mono ?_
  rintro e w2 ⟨rfl,hb⟩
  clear lB3 cB3 fB3
  replace B3:=h! (B3.out.later hb)
  replace HRI:=h! (HRI.out.later hb)
  replace HW:=h! (HW.out.trans (hb.mono HW.out.size))
  clear hb
  obtain ⟨lB3,cB3,fB3⟩:=B3.out
  go_wp2_with fail
  refine (aF2 (HV.out.below HW.out)).mono ?_
  rintro e w3 ⟨k,rfl,hk,hb⟩
  have HK:=h! hk
  clear hk
  clear lB3 cB3 fB3
  replace B3:=h! (B3.out.later hb)
  replace HRI:=h! (HRI.out.later hb)
  replace HW:=h! (HW.out.trans (hb.mono HW.out.size))
  clear hb
  obtain ⟨lB3,cB3,fB3⟩:=B3.out
  cases k
  ·clear HK
   --@B
   go_wp2_with fail
   refine qU.mono ?_
   rintro e wz ⟨rfl,hb⟩
   clear lB3 cB3 fB3
   replace B3:=h! (B3.out.later hb)
   replace HRI:=h! (HRI.out.later hb)
   replace HW:=h! (HW.out.trans (hb.mono HW.out.size))
   clear hb
   obtain ⟨lB3,cB3,fB3⟩:=B3.out
   go_wp2
   go_ret
   exact ⟨rfl,HW.out⟩
  have HC:Hid (eS f=0):=h! (HK.out.1 rfl).1
  have HF:Hid (fZ f 0 0):=h! (HK.out.1 rfl).2
  clear HK
  by_cases h2:sl < 2
  ·have hd:decide ((sl:Int) < 2)=true:=by simp;omega
   --@C
   go_wp2_with fail
   refine qU.mono ?_
   rintro e wz ⟨rfl,hb⟩
   clear lB3 cB3 fB3
   replace B3:=h! (B3.out.later hb)
   replace HRI:=h! (HRI.out.later hb)
   replace HW:=h! (HW.out.trans (hb.mono HW.out.size))
   clear hb
   obtain ⟨lB3,cB3,fB3⟩:=B3.out
   go_wp2
   go_ret
   exact ⟨rfl,HW.out⟩
  have hd:decide ((sl:Int) < 2)=false:=by simp;omega
  obtain ⟨_,_,gb,go,hue,huc,hum,hua,hux⟩:=HIN.out.parts
  injection hue with e1 e2 e3
  rw [<-HSL.out] at hua hux huc
  rw [<-e1] at hua
  rw [<-e3] at huc hum
  obtain ⟨rfl,hgb⟩:=hua (by omega)
  obtain ⟨r1,hr1⟩ : ∃ r1,r1=an % sl:=⟨_,rfl⟩
  obtain ⟨r2,hr2⟩ : ∃ r2,r2=bn % sl:=⟨_,rfl⟩
  have hrl1:r1 < sl:=by rw [hr1];exact Nat.mod_lt _ (by omega)
  have hrl2:r2 < sl:=by rw [hr2];exact Nat.mod_lt _ (by omega)
  have hrem1:Int.tmod (an:Int) (sl:Int)=(r1:Int):=by rw [hr1];rfl
  have hrem2:Int.tmod (bn:Int) (sl:Int)=(r2:Int):=by rw [hr2];rfl
  have hnz:sl ≠ 0:=by omega
  have hwr1:IntKind.i64.wrap (an:Int)=(an:Int):=by have h9:=kT (x:=(an:Int)) (y:=0) ⟨by omega,by omega⟩;simpa using h9
  have hwr2:IntKind.i64.wrap (bn:Int)=(bn:Int):=by have h9:=kT (x:=(bn:Int)) (y:=0) ⟨by omega,by omega⟩;simpa using h9
  obtain ⟨x,hx⟩ : ∃ x,x=S.getD r1 0:=⟨_,rfl⟩
  obtain ⟨y,hy⟩ : ∃ y,y=S.getD r2 0:=⟨_,rfl⟩
  have HZX:Hid (w3.cell? ⟨gb,go+r1,none⟩=some (.int .i64 x)):=h! (by rw [hx];exact (HRI.out.cell (p:=⟨gb,go+r1,none⟩) hgb).trans (hux r1 hrl1))
  have HZY:Hid (w3.cell? ⟨gb,go+r2,none⟩=some (.int .i64 y)):=h! (by rw [hy];exact (HRI.out.cell (p:=⟨gb,go+r2,none⟩) hgb).trans (hux r2 hrl2))
  have hxm:x ∈ S:=by rw [hx];exact aG (eZ S r1 (by rw [<-HSL.out];exact hrl1))
  have hym:y ∈ S:=by rw [hy];exact aG (eZ S r2 (by rw [<-HSL.out];exact hrl2))
  have HXT:=h! (And.intro (tQ HS.out hxm) (tQ HS.out hym))
  have H64:Hid (In64 x/\In64 y):=h! ⟨HIN.out.2 x hxm,HIN.out.2 y hym⟩
  have hg3:gb < w3.heap.size:=bA hgb (Below.size HRI.out)
  clear hua hux hr1 hr2 hx hy hxm hym e1 e2 e3 HIN HS
  go_upto_region 4 with (fail)
  clear hd h2
  --@D
  refine wp_region_grow 18 (fun _=>.plain) (by kernel_rfl) (by kernel_rfl) ?_ (fun ν => ?_)
  ·exact fun _=>trivial
  simp only [aQ,aU,aT,aY]
  iterate 18 (refine Grow.val (v := ?_) rfl rfl (fun wg hbg hdg => ?_) ?_;rotate_left;(focus ((obtain ⟨lg0,cg0,fg0⟩:=B3.out.later hbg);(have z1:=(hbg.cell (p:=⟨gb,go+r1,none⟩) hg3).trans HZX.out;have z2:=(hbg.cell (p:=⟨gb,go+r2,none⟩) hg3).trans HZY.out);clear hbg hdg;first | (go_simp;done) | (go_simp;with_reducible rfl)));simp only [Act.put,aB,aE,aF])
  intro wg hb hf hap
  clear hap
  clear lB3 cB3 fB3
  replace B3:=h! (B3.out.later hb)
  replace HW:=h! (HW.out.trans (hb.mono HW.out.size))
  clear hb
  obtain ⟨lB3,cB3,fB3⟩:=B3.out
  clear hf
  --@E
  clear hrem1 hrem2 hnz hwr1 hwr2 HZX HZY
  generalize wg=w4 at *
  go_wp2_with fail
  refine (sI (HV.out.below HW.out) H64.out.1 H64.out.2).mono ?_
  rintro e w5 ⟨g,k,v1,S1,hP1,rfl,hO1,hF1,hb⟩
  obtain ⟨ax,cx,bx,dx,rfl, -, -, -, -⟩:=hO1.reads.form
  have HP1:=h! (aBD HC.out HF.out HXT.out.1 HXT.out.2 hP1)
  have HA:=h! (kE hO1 hF1)
  clear hP1 hO1 hF1
  clear lB3 cB3 fB3
  replace B3:=h! (B3.out.later hb)
  replace HW:=h! (HW.out.trans (hb.mono HW.out.size))
  clear hb
  obtain ⟨lB3,cB3,fB3⟩:=B3.out
  go_upto_region 6 with (fail)
  replace HA:=h! (HA.out.more (aA _))
  have nB11B3:w5.heap.size ≠ w.heap.size:=fun e=>by have:=lB3;omega
  have nB3B11:w.heap.size ≠ w5.heap.size:=fun e=>nB11B3 e.symm
  clear lB3 cB3 fB3
  have hA_:=(Below.refl w5.heap.size w5).alloc (aA _) (.cells #[.slice ax g.params.length cx,.int .i64 g.arrays,.int .i64 g.cells,.slice bx g.blocks.length dx] 25)
  replace B3:=h! (B3.out.later hA_)
  replace HA:=h! (HA.out.later hA_)
  replace HW:=h! (HW.out.trans (hA_.mono HW.out.size))
  clear hA_
  have B11:=h! (Box.new w5 #[.slice ax g.params.length cx,.int .i64 g.arrays,.int .i64 g.cells,.slice bx g.blocks.length dx] 25)
  generalize w5.alloc (.cells #[.slice ax g.params.length cx,.int .i64 g.arrays,.int .i64 g.cells,.slice bx g.blocks.length dx] 25)=w6 at *
  obtain ⟨lB3,cB3,fB3⟩:=B3.out
  obtain ⟨lB11,cB11,fB11⟩:=B11.out
  --@F
  rcases HP1.out with rfl | ⟨rfl,hg⟩
  ·go_wp2
   go_ret
   exact ⟨rfl,HW.out⟩
  have HG:=h! hg
  clear hg
  by_cases hxy:x=y
  ·have hq:(x == y)=true:=by simpa using hxy
   have HGF:Hid (g=f):=h! (by rw [HG.out, <-hxy];exact xT f x)
   clear hxy
   --@G
   go_wp2_with fail
   refine (yM (HV.out.below HW.out) HA.out.now.reads).mono ?_
   rintro e w7 ⟨he,hb⟩
   rw [decide_eq_true HGF.out.symm] at he
   subst he
   clear lB3 cB3 fB3 lB11 cB11 fB11
   replace B3:=h! (B3.out.later hb)
   replace B11:=h! (B11.out.later hb)
   replace HA:=h! (HA.out.later hb)
   replace HW:=h! (HW.out.trans (hb.mono HW.out.size))
   clear hb
   obtain ⟨lB3,cB3,fB3⟩:=B3.out
   obtain ⟨lB11,cB11,fB11⟩:=B11.out
   go_wp2
   go_ret
   exact ⟨rfl,HW.out⟩
  have hq:(x == y)=false:=by simpa using hxy
  have HXY:=h! hxy
  have HEV:Hid (Even f):=h! (jJ (fA HC.out).1)
  have HEG:Hid (Even g):=h! (by rw [HG.out];exact aBC HEV.out _)
  clear hxy
  have hm:=tS HEV.out
  obtain ⟨m,hmm⟩ : ∃ m,m=(uxF f).length:=⟨_,rfl⟩
  rw [<-hmm] at hm
  have HM1:=h! hmm
  have HM2:Hid ((uxF g).length=m):=h! (by rw [HG.out,sK,bE];exact hmm.symm)
  clear hmm
  go_upto_region 9 with (fail)
  --@H
  have xHA:=HA
  refine wp_region_grow 4 (fun kz=>match kz with | 1=>.holds (fun u w'=>Row w' u m 5 (iG (uxF f))) | 3=>.holds (fun u w'=>Row w' u m 5 (iG (uxF g))) | _=>.plain) (by kernel_rfl) (by kernel_rfl) ?_ (fun ν => ?_)
  ·(intro k;(try dsimp only);split <;> first | exact True.intro | (intro u w1 w2 hu hb;exact hu.below hb))
  simp only [aQ,aU,aT,aY]
  refine Grow.val (v := ?_) rfl rfl (fun wg hbg hdg => ?_) ?_
  rotate_left
  focus ((obtain ⟨lg0,cg0,fg0⟩:=B3.out.later hbg);(obtain ⟨lg1,cg1,fg1⟩:=B11.out.later hbg);clear hbg hdg;first | (go_simp;done) | (go_simp;with_reducible rfl))
  simp only [Act.put,aB,aE,aF]
  refine Grow.call (f := ?_) (args := ?_) rfl (fun wg => ?_) (fun wg hbg hdg => ?_) ?_
  rotate_left 2
  focus (first | (go_simp;done) | (go_simp;refine And.intro ?_ ?_ <;> with_reducible rfl) | (go_simp;with_reducible rfl))
  focus exact ((qJ (HV.out.below (HW.out.trans (hbg.mono HW.out.size))) HEV.out).mono (fun e w2 ⟨u,he,hu,hw⟩=>⟨u,he,(by have h9:=Row.of_own hu (by rw [<-HM1.out];omega);rw [<-HM1.out] at h9;exact h9),hw⟩))
  simp only [Act.put,Known.val,aB,aE,aF]
  refine Grow.val (v := ?_) rfl rfl (fun wg hbg hdg => ?_) ?_
  rotate_left
  focus ((obtain ⟨lg0,cg0,fg0⟩:=B3.out.later hbg);(obtain ⟨lg1,cg1,fg1⟩:=B11.out.later hbg);clear hbg hdg;first | (go_simp;done) | (go_simp;with_reducible rfl))
  simp only [Act.put,aB,aE,aF]
  refine Grow.call (f := ?_) (args := ?_) rfl (fun wg => ?_) (fun wg hbg hdg => ?_) ?_
  rotate_left 2
  focus (first | (go_simp;done) | (go_simp;refine And.intro ?_ ?_ <;> with_reducible rfl) | (go_simp;with_reducible rfl))
  focus exact ((qJ (HA.out.later hbg).now.reads HEG.out).mono (fun e w2 ⟨u,he,hu,hw⟩=>⟨u,he,(by have h9:=Row.of_own hu (by rw [HM2.out];omega);rw [HM2.out] at h9;exact h9),hw⟩))
  simp only [Act.put,Known.val,aB,aE,aF]
  intro wg hb hf hap
  clear hap
  clear lB3 cB3 fB3 lB11 cB11 fB11
  replace B3:=h! (B3.out.later hb)
  replace B11:=h! (B11.out.later hb)
  replace HA:=h! (HA.out.later hb)
  replace HW:=h! (HW.out.trans (hb.mono HW.out.size))
  clear hb
  obtain ⟨lB3,cB3,fB3⟩:=B3.out
  obtain ⟨lB11,cB11,fB11⟩:=B11.out
  --@I
  simp only [bG,Nat.reduceAdd]
  have h1:Row wg (ν 1) m 5 (iG (uxF f)):=hf 1 (by omega)
  have h3:Row wg (ν 3) m 5 (iG (uxF g)):=hf 3 (by omega)
  obtain ⟨xa,xc,xb,xo,e1,hxc,hxm,hxa,hxx⟩:=h1.parts
  obtain ⟨ya,yc,yb,yo,e3,hyc,hym,hya,hyx⟩:=h3.parts
  simp only [e1,e3]
  have HXA:Hid (0 < m -> xa=some ⟨xb,xo,none⟩):=h! (fun h=>(hxa (by rw [h1.len];omega)).1)
  have HYA:Hid (0 < m -> ya=some ⟨yb,yo,none⟩):=h! (fun h=>(hya (by rw [h3.len];omega)).1)
  have HXX:Hid (∀ k u,(uxF f)[k]? = some u -> wg.cell? ⟨xb,xo+k * 5,none⟩=some (.int .i64 u.id)):=h! (fun k u hu=>hxx _ _ (mQ _ _ _ hu).1)
  have HYX:Hid (∀ k u,(uxF g)[k]? = some u -> wg.cell? ⟨yb,yo+k * 5,none⟩=some (.int .i64 u.id)):=h! (fun k u hu=>hyx _ _ (mQ _ _ _ hu).1)
  clear hf h1 h3 hxa hxx hya hyx e1 e3 xHA
  generalize wg=w8 at *
  go_wp2_with fail
  clear lB3 cB3 fB3 lB11 cB11 fB11
  --@J
  go_loopw [13,18] (fun cc kk wr => ∃ (k c:Nat),k <= m/\kk = .int .i64 k/\cc = .int .i64 c/\c <= k/\c=((uxF f).take k).countP (fun u=>u.id == x || u.id == y)/\wr=w8) (fun _ kk _=>m - (intOf kk).toNat)
  case atStart=>exact ⟨0,0,aJ _,rfl,rfl,aA _,by simp,rfl⟩
  obtain ⟨k,c,hk,rfl,rfl,hck,hcc,rfl⟩:=hrel
  have HCK:=h! hcc
  clear hcc
  by_cases hlt:k < m
  ·obtain ⟨u,hu⟩ : ∃ u,(uxF f)[k]? = some u:=⟨_,aC (by rw [<-HM1.out];exact hlt)⟩
   obtain rfl:=HXA.out (by omega)
   have hc0:=HXX.out k u hu
   have HTK:=h! (eP _ k u hu)
   clear hu
   cases hux:(u.id == x)
   ·have HUX:=h! hux
    cases huy:(u.id == y)
    ·have HUY:=h! huy
     go_wp2
     go_roundw
     case rel=>exact ⟨k+1,c,hlt,by go_num,rfl,by omega,by rw [HTK.out,cX, <-HCK.out];simp [HUX.out,HUY.out],by trivial⟩
     simp [intOf];omega
    have HUY:=h! huy
    go_wp2
    go_roundw
    case rel=>exact ⟨k+1,c+1,hlt,by go_num,by go_num,by omega,by rw [HTK.out,cX, <-HCK.out];simp [HUX.out,HUY.out],by trivial⟩
    simp [intOf];omega
   have HUX:=h! hux
   go_wp2
   go_roundw
   case rel=>exact ⟨k+1,c+1,hlt,by go_num,by go_num,by omega,by rw [HTK.out,cX, <-HCK.out];simp [HUX.out],by trivial⟩
   simp [intOf];omega
  obtain rfl:m=k:=by omega
  have HCN:Hid (c=(uxF f).countP (fun u=>u.id == x || u.id == y)):=h! (by rw [HCK.out,aH (by rw [<-HM1.out];exact aA _)])
  clear HCK
  --@K
  generalize wr=w9 at *
  go_wp2_with fail
  go_loopw [14,15,19] (fun cm cq kk wr => ∃ (k a b:Nat),k <= m/\kk = .int .i64 k/\cm = .int .i64 a/\cq = .int .i64 b/\a <= k/\b <= k/\a=((uxF g).take k).countP (fun u=>u.id == y)/\b=((uxF g).take k).countP (fun u=>u.id == x)/\wr=w9) (fun _ _ kk _=>m - (intOf kk).toNat)
  case atStart=>exact ⟨0,0,0,aJ _,rfl,rfl,rfl,aA _,aA _,by simp,by simp,rfl⟩
  obtain ⟨k,a,b,hk2,rfl,rfl,rfl,hak,hbk,hca,hcb,rfl⟩:=hrel
  have HCA:=h! hca
  have HCB:=h! hcb
  clear hca hcb
  by_cases hlt:k < m
  ·obtain ⟨u,hu⟩ : ∃ u,(uxF g)[k]? = some u:=⟨_,aC (by rw [HM2.out];exact hlt)⟩
   obtain rfl:=HYA.out (by omega)
   have hc0:=HYX.out k u hu
   have HTK:=h! (eP _ k u hu)
   clear hu
   cases hux:(u.id == x)
   ·have HUX:=h! hux
    cases huy:(u.id == y)
    ·have HUY:=h! huy
     go_wp2
     go_roundw
     case rel=>exact ⟨k+1,a,b,hlt,by go_num,rfl,rfl,by omega,by omega,by rw [HTK.out,cX, <-HCA.out];simp [HUY.out],by rw [HTK.out,cX, <-HCB.out];simp [HUX.out],by trivial⟩
     simp [intOf];omega
    have HUY:=h! huy
    go_wp2
    go_roundw
    case rel=>exact ⟨k+1,a+1,b,hlt,by go_num,by go_num,rfl,by omega,by omega,by rw [HTK.out,cX, <-HCA.out];simp [HUY.out],by rw [HTK.out,cX, <-HCB.out];simp [HUX.out],by trivial⟩
    simp [intOf];omega
   have HUX:=h! hux
   cases huy:(u.id == y)
   ·have HUY:=h! huy
    go_wp2
    go_roundw
    case rel=>exact ⟨k+1,a,b+1,hlt,by go_num,rfl,by go_num,by omega,by omega,by rw [HTK.out,cX, <-HCA.out];simp [HUY.out],by rw [HTK.out,cX, <-HCB.out];simp [HUX.out],by trivial⟩
    simp [intOf];omega
   have HUY:=h! huy
   go_wp2
   go_roundw
   case rel=>exact ⟨k+1,a+1,b+1,hlt,by go_num,by go_num,by go_num,by omega,by omega,by rw [HTK.out,cX, <-HCA.out];simp [HUY.out],by rw [HTK.out,cX, <-HCB.out];simp [HUX.out],by trivial⟩
   simp [intOf];omega
  obtain rfl:m=k:=by omega
  have HA0:Hid (a=c):=h! (by rw [HCA.out,HCN.out,aH (by rw [HM2.out];exact aA _),HG.out,sK,xV])
  have HB0:Hid (b=0):=h! (by rw [HCB.out,aH (by rw [HM2.out];exact aA _),HG.out,sK,xU HXY.out])
  obtain rfl:=HA0.out
  obtain rfl:=HB0.out
  clear HCA HCB
  --@L
  go_wp2
  go_ret
  exact ⟨rfl,HW.out⟩
end Go.Proofs.YtagabiidbbhhmaaGreat
