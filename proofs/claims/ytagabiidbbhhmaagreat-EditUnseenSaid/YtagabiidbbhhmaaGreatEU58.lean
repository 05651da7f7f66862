/- Part 58. -/
import Derived.Test.YtagabiidbbhhmaaGreatEU56
namespace Go.Proofs.YtagabiidbbhhmaaGreat
set_option maxHeartbeats 6400000
set_option linter.all false
section
open Go.RowKit
theorem aA3 (W:World) (v:Value) (f:FuncD) (hv:fP W v f):Calls Tryz.prog 11 #[v] W (RenR f W):=yH (fun _ _ _ h1 h2 h3=>aB3 h1 h2 h3) hv
theorem aFU {w:World} {v v' : Value} {f g:FuncD} (hf:fP w v f) (hg:fP w v' g) :
  Calls Tryz.prog 15 #[v,v'] w fun e w' => ∃ r,e = .returned (.bool r)/\aAU f g r/\Below w.heap.size w w':=aAV aA3 hf hg
theorem oZ:gD gK 0 0:=by
 refine .inr ⟨fun d hd => ?_,.inr ⟨fun d y hy => ?_,.inr ⟨fun v hv => ?_,rfl,rfl⟩⟩⟩
 ·have h1:d < 1:=hd
  obtain rfl:d=0:=by omega
  exact .zero (by decide)
 ·have h1:=(aD.1 hy).1
  have h2:d < 1:=h1
  obtain rfl:d=0:=by omega
  have h3:some (⟨[],[⟨1,0,[],5⟩],⟨3,0,[],0⟩⟩ : BlockD)=some y:=hy
  injection h3 with h3
  rw [<-h3];rfl
 have h9:∀ v ∈ uxF gK,v.id=0/\v.blk=0/\v.pos=1:=by decide
 obtain ⟨h1,h2,h3⟩:=h9 v hv
 exact ⟨0,0,by rw [h1,qK];rfl,.inr ⟨by omega,.inl ⟨h2.symm,by omega⟩⟩⟩
theorem lQ {g:FuncD} {k:Int} (h:RenP gK g k):g=gK/\k=0:=by
 have h0:SErr gK 0:=.inr ⟨sU.1,0,oZ⟩
 obtain ⟨s,h1,h2⟩:=h
 obtain rfl:=h1.one h0
 rcases h2 with ⟨n,_⟩ | ⟨_,rfl,O,hO,rfl⟩
 ·exact absurd rfl n
 obtain ⟨q1, -,q3,q4, -⟩:=hO.facts
 have q5:∀ b ∈ O,b=0:=fun b hb=>by have h9:b < 1:=q3 b hb;omega
 have:O=[0]:=by
  match O,q1,q4,q5 with
  | [],_,h,_=>simp at h
  | [a],_,_,h=>rw [h a (by simp)]
  | a :: b :: l,h,_,h2 =>
   exfalso
   rw [eE] at h
   exact h.1 (by rw [h2 a (by simp), <-h2 b (by simp)];simp)
 subst this
 exact ⟨by decide,rfl⟩
theorem pI {r:Bool} (h:aAU gK gK r):r=true:=by
 obtain ⟨a,b,k,q,h1,h2,rfl⟩:=h
 obtain ⟨rfl,rfl⟩:=lQ h1
 obtain ⟨rfl,rfl⟩:=lQ h2
 simp
theorem aDB {w:World}:Calls Tryz.prog 13 #[] w fun e w'=>e = .returned (.bool true)/\Below w.heap.size w w':=by
 go_enter Tryz.func13,Tryz.ntmps13
 go_upto_region 2 with (fail)
 have aa:=(Below.refl w.heap.size w).alloc (aC _) (.cells #[.int .i64 1,.int .i64 0,.slice none 0 0,.int .i64 5] 82)
 have HW:=h! aa
 clear aa
 have B0:=h! (Box.new w #[.int .i64 1,.int .i64 0,.slice none 0 0,.int .i64 5] 82)
 have ak:(w.alloc (.cells #[.int .i64 1,.int .i64 0,.slice none 0 0,.int .i64 5] 82)).heap.size=w.heap.size+1:=World.size_alloc _ _
 generalize w.alloc (.cells #[.int .i64 1,.int .i64 0,.slice none 0 0,.int .i64 5] 82)=ao at *
 have aa:=(Below.refl ao.heap.size ao).alloc (aC _) (.cells #[.slice none 0 0,.slice (some ⟨w.heap.size,0,none⟩) 1 1,.int .i64 3,.int .i64 0,.slice none 0 0,.int .i64 0] 63)
 replace B0:=h! (B0.out.later aa)
 replace HW:=h! (HW.out.trans (aa.mono HW.out.size))
 clear aa
 have B1:=h! (Box.new ao #[.slice none 0 0,.slice (some ⟨w.heap.size,0,none⟩) 1 1,.int .i64 3,.int .i64 0,.slice none 0 0,.int .i64 0] 63)
 rw [ak] at B1
 have am:(ao.alloc (.cells #[.slice none 0 0,.slice (some ⟨w.heap.size,0,none⟩) 1 1,.int .i64 3,.int .i64 0,.slice none 0 0,.int .i64 0] 63)).heap.size=w.heap.size+1+1:=by rw [World.size_alloc,ak]
 clear ak
 generalize ao.alloc (.cells #[.slice none 0 0,.slice (some ⟨w.heap.size,0,none⟩) 1 1,.int .i64 3,.int .i64 0,.slice none 0 0,.int .i64 0] 63)=aw at *
 have aa:=(Below.refl aw.heap.size aw).alloc (aC _) (.cells #[.slice none 0 0,.int .i64 0,.int .i64 0,.slice (some ⟨w.heap.size+1,0,none⟩) 1 1] 25)
 replace B0:=h! (B0.out.later aa)
 replace B1:=h! (B1.out.later aa)
 replace HW:=h! (HW.out.trans (aa.mono HW.out.size))
 clear aa
 have B2:=h! (Box.new aw #[.slice none 0 0,.int .i64 0,.int .i64 0,.slice (some ⟨w.heap.size+1,0,none⟩) 1 1] 25)
 rw [am] at B2
 clear am
 generalize aw.alloc (.cells #[.slice none 0 0,.int .i64 0,.int .i64 0,.slice (some ⟨w.heap.size+1,0,none⟩) 1 1] 25)=wv at *
 obtain ⟨ab,aj,ah⟩:=B0.out
 obtain ⟨ad,af,ag⟩:=B1.out
 obtain ⟨ac,ae,ai⟩:=B2.out
 go_wp2_with fail
 refine (aA3 _ _ _ (jW B0.out B1.out)).mono ?_
 rintro e w2 ⟨g,k,v2,S2,hp,rfl,hO,hF,hb⟩
 obtain ⟨rfl,rfl⟩:=lQ hp
 obtain ⟨ax,cx,bx,dx,rfl, -, -, -, -⟩:=hO.reads.form
 have HA:=h! (kN hO hF)
 clear hp hO hF
 obtain ⟨pl,bd⟩ : ∃ pl,pl=gK.params.length:=⟨_,rfl⟩
 obtain ⟨ar,ba⟩ : ∃ ar,ar=gK.arrays:=⟨_,rfl⟩
 obtain ⟨ce,bc⟩ : ∃ ce,ce=gK.cells:=⟨_,rfl⟩
 obtain ⟨bl,bb⟩ : ∃ bl,bl=gK.blocks.length:=⟨_,rfl⟩
 rw [<-bd, <-ba, <-bc, <-bb] at HA
 rw [<-bd, <-ba, <-bc, <-bb]
 clear bd ba bc bb
 clear ab aj ah ad af ag ac ae ai
 replace B0:=h! (B0.out.later hb)
 replace B1:=h! (B1.out.later hb)
 replace B2:=h! (B2.out.later hb)
 replace HW:=h! (HW.out.trans (hb.mono HW.out.size))
 clear hb
 obtain ⟨ab,aj,ah⟩:=B0.out
 obtain ⟨ad,af,ag⟩:=B1.out
 obtain ⟨ac,ae,ai⟩:=B2.out
 go_upto_region 3 with (fail)
 replace HA:=h! (HA.out.more (aC _))
 have al:w2.heap.size ≠ w.heap.size:=fun e=>by have:=ab;omega
 have nB0B3:w.heap.size ≠ w2.heap.size:=fun e=>al e.symm
 have an:w2.heap.size ≠ w.heap.size+1:=fun e=>by have:=ad;omega
 have nB1B3:w.heap.size+1 ≠ w2.heap.size:=fun e=>an e.symm
 have ap:w2.heap.size ≠ w.heap.size+1+1:=fun e=>by have:=ac;omega
 have nB2B3:w.heap.size+1+1 ≠ w2.heap.size:=fun e=>ap e.symm
 clear ab aj ah ad af ag ac ae ai
 have aa:=(Below.refl w2.heap.size w2).alloc (aC _) (.cells #[.slice ax pl cx,.int .i64 ar,.int .i64 ce,.slice bx bl dx] 25)
 replace B0:=h! (B0.out.later aa)
 replace B1:=h! (B1.out.later aa)
 replace B2:=h! (B2.out.later aa)
 replace HA:=h! (HA.out.later aa)
 replace HW:=h! (HW.out.trans (aa.mono HW.out.size))
 clear aa
 have B3:=h! (Box.new w2 #[.slice ax pl cx,.int .i64 ar,.int .i64 ce,.slice bx bl dx] 25)
 generalize w2.alloc (.cells #[.slice ax pl cx,.int .i64 ar,.int .i64 ce,.slice bx bl dx] 25)=w3 at *
 obtain ⟨ab,aj,ah⟩:=B0.out
 obtain ⟨ad,af,ag⟩:=B1.out
 obtain ⟨ac,ae,ai⟩:=B2.out
 obtain ⟨az,ay,aq⟩:=B3.out
 go_wp2_with fail
 refine (aDU (jW B0.out B1.out) HA.out.now.reads).mono ?_
 rintro e w4 ⟨he,hb⟩
 rw [decide_eq_true rfl] at he
 subst he
 clear ab aj ah ad af ag ac ae ai az ay aq
 replace B0:=h! (B0.out.later hb)
 replace B1:=h! (B1.out.later hb)
 replace B2:=h! (B2.out.later hb)
 replace B3:=h! (B3.out.later hb)
 replace HA:=h! (HA.out.later hb)
 replace HW:=h! (HW.out.trans (hb.mono HW.out.size))
 clear hb
 obtain ⟨ab,aj,ah⟩:=B0.out
 obtain ⟨ad,af,ag⟩:=B1.out
 obtain ⟨ac,ae,ai⟩:=B2.out
 obtain ⟨az,ay,aq⟩:=B3.out
 go_wp2_with fail
 refine (aFU (jW B0.out B1.out) (jW B0.out B1.out)).mono ?_
 rintro e w5 ⟨r,rfl,hq,hb⟩
 obtain rfl:=pI hq
 clear hq
 clear ab aj ah ad af ag ac ae ai az ay aq
 replace B0:=h! (B0.out.later hb)
 replace B1:=h! (B1.out.later hb)
 replace B2:=h! (B2.out.later hb)
 replace B3:=h! (B3.out.later hb)
 replace HA:=h! (HA.out.later hb)
 replace HW:=h! (HW.out.trans (hb.mono HW.out.size))
 clear hb
 obtain ⟨ab,aj,ah⟩:=B0.out
 obtain ⟨ad,af,ag⟩:=B1.out
 obtain ⟨ac,ae,ai⟩:=B2.out
 obtain ⟨az,ay,aq⟩:=B3.out
 go_wp2
 go_ret
 exact ⟨rfl,HW.out⟩
def IsR (f:FuncD) (w:World) (e:Ending) (w' : World):Prop := ∃ k:Bool,e = .returned (.bool k)/\(k=true ↔ eV f=0/\gD f 0 0)/\Below w.heap.size w w'
theorem aGI {w:World} {v:Value} {f:FuncD} (hv:fP w v f):Calls Tryz.prog 20 #[v] w (IsR f w):=by
 have HV:=h! hv
 obtain ⟨ap,cp,ab,cb,rfl, -, -, -, -⟩:=hv.form
 clear hv
 go_enter Tryz.func20,Tryz.ntmps20
 go_upto_region 1 with (fail)
 have aa:=(Below.refl w.heap.size w).alloc (aC _) (.cells #[.slice ap f.params.length cp,.int .i64 f.arrays,.int .i64 f.cells,.slice ab f.blocks.length cb] 25)
 have HW:=h! aa
 clear aa
 have B1:=h! (Box.new w #[.slice ap f.params.length cp,.int .i64 f.arrays,.int .i64 f.cells,.slice ab f.blocks.length cb] 25)
 generalize w.alloc (.cells #[.slice ap f.params.length cp,.int .i64 f.arrays,.int .i64 f.cells,.slice ab f.blocks.length cb] 25)=wv at *
 obtain ⟨ae,ac,ad⟩:=B1.out
 go_wp2_with fail
 refine (aAN (HV.out.below HW.out)).mono ?_
 rintro e w2 ⟨b,g,rfl,h1,h2,hb⟩
 have HS:=h! (SErr.of_check h1 h2)
 clear h1 h2
 clear ae ac ad
 replace B1:=h! (B1.out.later hb)
 replace HW:=h! (HW.out.trans (hb.mono HW.out.size))
 clear hb
 obtain ⟨ae,ac,ad⟩:=B1.out
 by_cases hg:g=0
 ·have HG:Hid (eV f=0/\gD f 0 0):=h! (by have h9:=HS.out;rw [hg] at h9;exact h9.zero)
  have hq:(g == 0)=true:=by simpa using hg
  clear hg
  go_wp2
  go_ret
  exact ⟨true,rfl,⟨fun _=>HG.out,fun _=>rfl⟩,HW.out⟩
 have HG:Hid (¬ (eV f=0/\gD f 0 0)):=h! (fun h=>hg (HS.out.one (.inr ⟨h.1,0,h.2⟩)))
 have hq:(g == 0)=false:=by simpa using hg
 clear hg
 go_wp2
 go_ret
 exact ⟨false,rfl,⟨fun h=>absurd h (by simp),fun h=>absurd h HG.out⟩,HW.out⟩
structure InputD where
 args:List Int
 arrays:List (List Int)
def sE (W:World) (v:Value) (i:InputD):Prop := ∃ a b,v = .agg #[a,b]/\Ints W a i.args/\mB W b i.arrays
theorem sE.below {W W' : World} {v:Value} {i:InputD} (h:sE W v i) (hb:Below W.heap.size W W'):sE W' v i:=by
 obtain ⟨a,b,e,h1,h2⟩:=h
 exact ⟨a,b,e,h1.below hb,h2.below hb⟩
theorem tS:iM Tryz.prog 42 (oV aEC 1):=jS Tryz.underlying42 (by kernel_rfl) (by kernel_rfl) (by omega) (Nat.le_of_ble_eq_true rfl:8 <= 24) jC
theorem aCU {W:World} {v:Value} {xs:List (List Int)} (h:eU aEC 1 W v xs):mB W v xs:=by
 obtain ⟨cs,h1,h2⟩:=h
 have hl:=h1.len
 refine ⟨cs,by omega,h1,fun j hj => ?_⟩
 obtain ⟨u,hu,hI⟩:=h2 j _ (aB hj)
 have aa:cs[j]? = some u:=by
  have h9:=congrArg (fun l:List Value=>l[0]?) hu
  simp only [aW,bK,dW,eN] at h9
  simpa using h9
 have e1:cs.getD j undef=u:=by rw [aN,aa];rfl
 have e2:xs.getD j []=xs[j]:=by rw [aN,aB hj];rfl
 rw [e1,e2]
 exact hI
def aFV (W:World) (cs:List Value) (i:InputD):Prop := ∃ a b,cs=[a,b]/\Ints W a i.args/\mB W b i.arrays
theorem tT:iM Tryz.prog 44 aFV :=
 (qQ Tryz.underlying44 (s0:=1) (s1:=1) (by kernel_rfl) rfl rfl (by kernel_rfl) (by kernel_rfl) jC tS).mono
  fun W cs y ⟨d0,d1,e,_,⟨v,e0,h0⟩,u,e1,h1⟩=>⟨⟨y.1,y.2⟩,v,u,by rw [e,e0,e1];rfl,h0,aCU h1⟩
set_option maxRecDepth 100000 in
theorem aA4 {H:Type} {enc:TypeId × Value -> H} {W:World} {v:Value} {d:DataW H} {ps:List MemPlace} {base:Nat} (hval:Value.okWide Tryz.prog W .any base 44 v)
  (h:DataW.Trod enc Tryz.prog W 0 (fun _=>true) true 44 v d ps) (hz:∀ n ∈ d.weights Tryz.prog 44,n <= reachBytes):∃ i:InputD,sE W v i:=by
 obtain ⟨cs,i,hv,hf⟩:=lK Tryz.underlying44 tT hval h hz
 obtain ⟨a,b,e,r⟩:=hf
 refine ⟨i,a,b, ?_,r⟩
 rw [hv, <-Array.toArray_toList (xs:=cs),e]
open Go.RowKit Go.ChangeShapes Go.WideShapes Go.ChangeAt
def aDC (W:World) (v:Value) (xs:List Int):Prop :=
 ∃ (a:Option Addr) (cap b off:Nat),v = .slice a xs.length cap/\xs.length <= cap/\cap <= 9223372036854775807/\(0 < xs.length -> a=some ⟨b,off,none⟩/\b < W.heap.size) /\
  (∀ (j:Nat),j < xs.length -> W.cell? ⟨b,off+j,none⟩=some (.int .u8 (xs.getD j 0))) /\ ∀ x ∈ xs,0 <= x/\x <= 255
set_option maxRecDepth 100000 in
theorem aA5 {H:Type} {enc:TypeId × Value -> H} {W:World} {v:Value} {d:DataW H} {ps:List MemPlace} {base:Nat} (hval:Value.okWide Tryz.prog W .any base 66 v)
  (h:DataW.Trod enc Tryz.prog W 0 (fun _=>true) true 66 v d ps) (hz:∀ n ∈ d.weights Tryz.prog 66,n <= reachBytes):∃ xs:List Int,aDC W v xs:=by
 obtain ⟨fuel,hf⟩:=h
 obtain ⟨a,n,c,rfl⟩:=okWide_slice Tryz.underlying66 hval
 rcases open_ints Tryz.underlying66 Tryz.underlying5 (by kernel_rfl) hf with ⟨ac,hx⟩ | ⟨a',len',cap',zs,ac,_,hl,hm,af,hx,aa,ae⟩
 ·simp [Value.cells] at ac
  obtain ⟨rfl,rfl,rfl⟩:=ac
  exact ⟨[],none,0,0,0,rfl,by simp,by omega,by simp,by simp,by simp⟩
 ·simp [Value.cells] at ac
  obtain ⟨rfl,rfl,rfl⟩:=ac
  simp only [if_true] at af
  have ab:(zs.take n).length=n:=by rw [aV];omega
  obtain ⟨b,o,s⟩:=a'
  by_cases h0:n=0
  ·subst h0
   exact ⟨[],_,c,0,0,rfl,by simp,by unfold maxLen at hm;omega,by simp,by simp,by simp⟩
  have ad:=aa 0 (by omega)
  have hs:s=none:=by simpa [Addr.add] using World.cell?_spot ad
  subst hs
  refine ⟨zs.take n,_,c,b,o,by rw [ab],by omega,by unfold maxLen at hm;omega,fun _=>⟨rfl, ?_⟩,fun j hj => ?_,fun x hx => ?_⟩
  ·simpa [Addr.add] using World.block_lt_of_cell? W _ ad
  ·rw [ab] at hj
   rw [<-pS,aa j (by omega),aN,aN,aW,if_pos hj]
  have:=ae x (cJ hx)
  simpa [Lit.wf,IntKind.min,IntKind.max,IntKind.signed,IntKind.bits] using this
end
section
open Go.RowKit
private theorem fN.alloc {w0 W:World} (h:fN w0 W) (o:Obj):fN w0 (W.alloc o):=h.later ((Below.refl _ _).alloc (aC _) o)
theorem aD1 {W:World} {b:Nat} {x0 x1 x2 x3 x4 x5:Value} (h:Box W b #[x0,x1,x2,x3,x4,x5]) (v0 v1 v2 v3 v4 v5:Value) :
  Turn [b] W ((((((W.setCell ⟨b,0,none⟩ v0).setCell ⟨b,1,none⟩ v1).setCell ⟨b,2,none⟩ v2).setCell ⟨b,3,none⟩ v3).setCell ⟨b,4,none⟩ v4).setCell ⟨b,5,none⟩ v5)/\Box ((((((W.setCell ⟨b,0,none⟩ v0).setCell ⟨b,1,none⟩ v1).setCell ⟨b,2,none⟩ v2).setCell ⟨b,3,none⟩ v3).setCell ⟨b,4,none⟩ v4).setCell ⟨b,5,none⟩ v5) b #[v0,v1,v2,v3,v4,v5] :=
 ⟨(((((jD W b 0 v0).trans (jD _ b 1 v1)).trans (jD _ b 2 v2)).trans (jD _ b 3 v3)).trans (jD _ b 4 v4)).trans (jD _ b 5 v5),by simpa using (((((h.set 0 v0).set 1 v1).set 2 v2).set 3 v3).set 4 v4).set 5 v5⟩
set_option maxHeartbeats 12800000 in
set_option maxRecDepth 100000 in
theorem wS {w:World} {v u iv:Value} (f:FuncD) {xs:List Int} (ip:InputD) (hv:fP w v f) (hu:aDC w u xs) (hi:sE w iv ip) :
  Calls Tryz.prog 9 #[v,u,iv] w fun e w'=>e = .returned (.bool true)/\Below w.heap.size w w':=by
 have HV:=h! hv
 obtain ⟨ap,cp,ab,cb,rfl,hp,ha,hc,hB⟩:=hv.form
 obtain ⟨a2,c2,bb,bo,eb,gy,hbm,gr,ev,ft⟩:=eW hB
 cases eb
 obtain ⟨ua,uc,ub,uo,rfl,gv,hum,fg,eo,fw⟩:=hu
 obtain ⟨ia,ib,rfl,fi,fB⟩:=hi
 obtain ⟨aa,ca,rfl⟩:=fi.form
 obtain ⟨_,b5,c5,_,_,rfl, -, -, -, -, -, -⟩:=fB.parts
 obtain ⟨nb,fe⟩ : ∃ nb,nb=f.blocks.length:=⟨_,rfl⟩
 obtain ⟨ul,ex⟩ : ∃ ul,ul=xs.length:=⟨_,rfl⟩
 rw [<-fe] at HV gy gr ev ⊢
 rw [<-ex] at gv fg eo ⊢
 have cv:=h! fe
 have fv:=h! ex
 have gs:=h! fg
 have gj:=h! eo
 have gn:=h! fw
 have gd:=h! ev
 have gx:=h! ft
 clear fe ex hp ha hc hB hv ft ev fg eo fw fi fB
 go_enter Tryz.func9,Tryz.ntmps9
 go_upto_region 1 with (fail)
 have ao:=(Below.refl w.heap.size w).alloc (aC _) (.cells #[.slice ap f.params.length cp,.int .i64 f.arrays,.int .i64 f.cells,.slice ab nb cb] 25)
 have HW:=h! ao
 clear ao
 have B3:=h! (Box.new w #[.slice ap f.params.length cp,.int .i64 f.arrays,.int .i64 f.cells,.slice ab nb cb] 25)
 have cl:(w.alloc (.cells #[.slice ap f.params.length cp,.int .i64 f.arrays,.int .i64 f.cells,.slice ab nb cb] 25)).heap.size=w.heap.size+1:=World.size_alloc _ _
 generalize w.alloc (.cells #[.slice ap f.params.length cp,.int .i64 f.arrays,.int .i64 f.cells,.slice ab nb cb] 25)=cB at *
 have ao:=(Below.refl cB.heap.size cB).alloc (aC _) (.cells #[.slice aa ip.args.length ca,.slice b5 ip.arrays.length c5] 44)
 replace B3:=h! (B3.out.later ao)
 replace HW:=h! (HW.out.trans (ao.mono HW.out.size))
 clear ao
 have B5:=h! (Box.new cB #[.slice aa ip.args.length ca,.slice b5 ip.arrays.length c5] 44)
 rw [cl] at B5
 clear cl
 generalize cB.alloc (.cells #[.slice aa ip.args.length ca,.slice b5 ip.arrays.length c5] 44)=wv at *
 obtain ⟨ac,aj,af⟩:=B3.out
 obtain ⟨ad,ag,ai⟩:=B5.out
 go_wp2_with fail
 refine aDB.mono ?_
 rintro e w2 ⟨rfl,hb⟩
 clear ac aj af ad ag ai
 replace B3:=h! (B3.out.later hb)
 replace B5:=h! (B5.out.later hb)
 replace HW:=h! (HW.out.trans (hb.mono HW.out.size))
 clear hb
 obtain ⟨ac,aj,af⟩:=B3.out
 obtain ⟨ad,ag,ai⟩:=B5.out
 go_wp2_with fail
 refine (aGI (HV.out.below HW.out)).mono ?_
 rintro e w3 ⟨k,rfl,hk,hb⟩
 have HK:=h! hk
 clear hk
 clear ac aj af ad ag ai
 replace B3:=h! (B3.out.later hb)
 replace B5:=h! (B5.out.later hb)
 replace HW:=h! (HW.out.trans (hb.mono HW.out.size))
 clear hb
 obtain ⟨ac,aj,af⟩:=B3.out
 obtain ⟨ad,ag,ai⟩:=B5.out
 cases k
 ·clear HK
  go_wp2_with fail
  refine aDB.mono ?_
  rintro e w4 ⟨rfl,hb⟩
  clear ac aj af ad ag ai
  replace B3:=h! (B3.out.later hb)
  replace B5:=h! (B5.out.later hb)
  replace HW:=h! (HW.out.trans (hb.mono HW.out.size))
  clear hb
  obtain ⟨ac,aj,af⟩:=B3.out
  obtain ⟨ad,ag,ai⟩:=B5.out
  go_wp2
  go_ret
  exact ⟨rfl,HW.out⟩
 ·have HC:Hid (eV f=0):=h! (HK.out.1 rfl).1
  have HF:Hid (gD f 0 0):=h! (HK.out.1 rfl).2
  have gw:1 <= nb:=by have:=(gG (eY HC.out).1).1;rw [<-cv.out] at this;exact this
  have hn5:nb <= 512:=by have:=(gG (eY HC.out).1).2;rw [<-cv.out] at this;exact this
  obtain ⟨rfl,fj⟩:=gd.out (by omega)
  clear HK gd
  go_upto_region 4 with (fail)
  --@A
  have dn:=(Below.refl w3.heap.size w3).alloc (aC _) (.cells #[] 3)
  clear ac aj af ad ag ai
  replace B3:=h! (B3.out.later dn)
  replace B5:=h! (B5.out.later dn)
  replace HW:=h! (HW.out.trans (dn.mono HW.out.size))
  clear dn
  obtain ⟨ac,aj,af⟩:=B3.out
  obtain ⟨ad,ag,ai⟩:=B5.out
  generalize w3.alloc _=w4 at *
  go_wp2_with fail
  clear ac aj af ad ag ai
  --@A1
  go_loopw [7,8] (fun lv iv wr => ∃ (i:Nat) (L:List Nat) (T:Foot) (a1:Option Addr) (n c1:Nat),i <= 6/\i <= ul/\iv = .int .i64 i/\lv = .slice a1 n c1/\L.length=n/\n <= i/\eR wr T (.slice a1 n c1) (natI L)/\(∀ k,T k -> w4.heap.size <= k)/\L.Nodup/\(∀ b ∈ L,b < nb)/\Below w4.heap.size w4 wr) (fun _ iv _=>6 - (intOf iv).toNat)
  case atStart=>exact ⟨0,[],Foot.none,_,0,0,aH _,aH _,rfl,rfl,rfl,aC _,eR.nil _,fun _ h=>h.elim,List.nodup_nil,(fun b h=>by cases h),Below.refl _ _⟩
  obtain ⟨i,L,T,a1,n,c1,hi6,hiu,rfl,rfl,gf,hni,hT,fF,fG,gi,hb⟩:=hrel
  have bc:=h! gf
  have HT:=h! hT
  have dp:=h! fF
  have eh:=h! fG
  have cM:=h! gi
  have HB:=h! hb
  clear gf hT fF fG gi
  obtain ⟨ac,aj,af⟩:=B3.out
  obtain ⟨ad,ag,ai⟩:=B5.out
  clear ac aj af ad ag ai
  replace B3:=h! (B3.out.later hb)
  replace B5:=h! (B5.out.later hb)
  replace HW:=h! (HW.out.trans (hb.mono HW.out.size))
  clear hb
  obtain ⟨ac,aj,af⟩:=B3.out
  obtain ⟨ad,ag,ai⟩:=B5.out
  generalize wr=w5 at *
  by_cases hgo:i < ul/\i < 6
  ·obtain ⟨cm,hlt6⟩:=hgo
   obtain ⟨rfl,fz⟩:=gs.out (by omega)
   obtain ⟨y,hy⟩ : ∃ y,y=xs.getD i 0:=⟨_,rfl⟩
   have dy:=(HW.out.cell (p:=⟨ub,uo+i,none⟩) fz).trans (gj.out i (by have:=fv.out;omega))
   rw [<-hy] at dy
   have hy8:=gn.out y (by rw [hy];exact aG (fI xs i (by have:=fv.out;omega)))
   obtain ⟨yn,rfl⟩ : ∃ yn:Nat,y=(yn:Int):=⟨y.toNat,by omega⟩
   obtain ⟨r,hr⟩ : ∃ r,r=yn % nb:=⟨_,rfl⟩
   have hg:r < nb:=by rw [hr];exact Nat.mod_lt _ gw
   have hrem:Int.tmod (yn:Int) (nb:Int)=(r:Int):=by rw [hr];rfl
   have hnz:nb ≠ 0:=by omega
   have hwr:IntKind.i64.wrap (yn:Int)=(yn:Int):=by have h9:=lC (x:=(yn:Int)) (y:=0) ⟨by omega,by omega⟩;simpa using h9
   have gq:=h! dy
   have en:ub < w5.heap.size:=aR fz HW.out.size
   have df:Hid (fN w5 w5):=h! (Below.refl _ _)
   clear hy hr dy
   go_upto_region 7 with (fail)
   --@B
   refine wp_region_grow 9 (fun _=>.plain) (by kernel_rfl) (by kernel_rfl) ?_ (fun ν => ?_)
   ·exact fun _=>trivial
   simp only [aP,aU,aS,aX]
   iterate 9 (refine Grow.val (v := ?_) rfl rfl (fun wg hbg hdg => ?_) ?_;rotate_left;(focus ((obtain ⟨lg0,cg0,fg0⟩:=B3.out.later hbg);(obtain ⟨lg1,cg1,fg1⟩:=B5.out.later hbg);(have zc:=(hbg.cell (p:=⟨ub,uo+i,none⟩) en).trans gq.out);clear hbg hdg;first | (go_simp;done) | (go_simp;with_reducible rfl)));simp only [Act.put,aA,aE,aF])
   intro wg hb hf ei
   clear ei
   clear ac aj af ad ag ai
   replace B3:=h! (B3.out.later hb)
   replace B5:=h! (B5.out.later hb)
   replace df:=h! (df.out.later hb)
   replace HW:=h! (HW.out.trans (hb.mono HW.out.size))
   clear hb
   obtain ⟨ac,aj,af⟩:=B3.out
   obtain ⟨ad,ag,ai⟩:=B5.out
   clear hf
   --@B1
   generalize wg=w6 at *
   have em:Hid (eR w6 T (.slice a1 n c1) (natI L)):=h! (HT.out.off (Off.of_below df.out Foot.none) (fun _ _ h=>h))
   go_wp2_with fail
   refine (zL (em.out.ints)).mono ?_
   rintro e w7 ⟨rfl,rfl⟩
   --@C
   obtain ⟨kb,da⟩ : ∃ kb,kb=(natI L).contains (r:Int):=⟨_,rfl⟩
   rw [<-da]
   have aq:Hid (Below w4.heap.size w4 w6):=h! (HB.out.trans (df.out.mono HB.out.size))
   cases kb
   ·have hh:Hid (r ∉ L):=h! (fun h=>by
     have h9:(natI L).contains (r:Int)=true:=by
      rw [eA]
      exact bB.2 ⟨r,h,rfl⟩
     rw [<-da] at h9;cases h9)
    have gl:Hid ((natI L).length=n):=h! (by rw [fE];exact bc.out)
    have dv:Hid (In64 (r:Int)):=h! ⟨by omega,by omega⟩
    clear da
    go_wp2_with (at_builtin;go_loud (refine oM rfl _ _ rfl rfl rfl gl.out (em.out.off (Off.alloc Foot.none _ _) (fun _ _ h=>h)) (Box.new _ _ _) dv.out (by omega) ?_);intro g5 c5 w8 hO hG fL;have hm:=h! hO;have gm:=h! hG;have fa:=h! fL;clear hO hG fL)
    --@D
    go_roundw
    case rel =>
     refine ⟨i+1,L ++ [r],Foot.one g5,some ⟨g5,0,none⟩,n+1,c5,by omega,by omega,by go_num,rfl,by rw [aI,bc.out];rfl,by omega,by rw [show natI (L ++ [r])=natI L ++ [(r:Int)] by simp [natI]];exact hm.out,fun k hk => ?_, ?_,fun b hb => ?_, ?_⟩
     ·have e:k=g5:=hk
      rw [e]
      rcases gm.out with h | h
      ·exact dp.out _ h
      rw [World.size_alloc] at h;have:=aq.out.size;omega
     ·rw [bW]
      exact ⟨eh.out,by simp,fun a ha b hb=>by simp at hb;subst hb;exact fun e=>hh.out (e ▸ ha)⟩
     ·rcases aL.1 hb with hb | hb
      ·exact cM.out b hb
      rw [cN.1 hb];exact hg
     exact (aq.out.alloc aq.out.size _).trans (fa.out.below (base:=w4.heap.size) (by rw [World.size_alloc];have:=aq.out.size;omega) (fun k _ hk=>dp.out k hk))
    case measure=>simp [intOf];omega
   clear da
   go_wp2
   go_roundw
   case rel=>exact ⟨i+1,L,T,a1,n,c1,by omega,by omega,by go_num,rfl,bc.out,by omega,em.out,dp.out,eh.out,cM.out,aq.out⟩
   simp [intOf];omega
  skip
  --@E
  have fl:=h! HT.out.ints
  obtain ⟨_,_,lb,lo,et,ee,gz,dz,ek⟩:=HT.out.ints.parts
  rw [fE,bc.out] at dz ek
  have gp:Hid (∀ (j b:Nat),L[j]? = some b -> w5.cell? ⟨lb,lo+j,none⟩=some (.int .i64 (b:Int))):=h! (fun j b hj=>by
   rw [ek j (by rw [<-bc.out];exact (aD.1 hj).1)]
   rw [getD_some (x:=(b:Int)) (by unfold natI;rw [aO,hj];rfl)])
  have hs:Hid (0 < n -> a1=some ⟨lb,lo,none⟩/\lb < w5.heap.size):=h! (fun h=>by
   have h9:=dz h
   injection et with e1 e2 e3
   exact ⟨e1.trans h9.1,h9.2⟩)
  have hlc1:n <= c1:=by
   injection et with e1 e2 e3
   rw [fE,bc.out] at ee
   rw [e3];exact ee
  have bm:Hid (fN w5 w5):=h! (Below.refl _ _)
  clear et ee gz dz ek HT dp HB
  have gc:∀ W,Below w5.heap.size w5 W -> Calls Tryz.prog 33 #[.agg #[.slice ap f.params.length cp,.int .i64 f.arrays,.int .i64 f.cells,.slice (some ⟨bb,bo,none⟩) nb cb],.slice a1 n c1] W (aBP f L W):=fun W h=>aBQ (HV.out.below (HW.out.trans (h.mono HW.out.size))) HC.out HF.out (fl.out.below h) eh.out (by rw [<-cv.out];exact cM.out) (by rw [bc.out];omega)
  have cj:=h! gc
  clear gc fl
  by_cases h1:i < ul
  all_goals
   go_wp2_with fail
   refine (cj.out w5 (Below.refl _ _)).mono ?_
   rintro e w6 ⟨ax,nx,cx,ar,ce,bx,mx,dx,ay,ny,cy,k,rfl,hb,hk⟩
   have HK:=h! hk
   clear hk
   clear ac aj af ad ag ai
   replace B3:=h! (B3.out.later hb)
   replace B5:=h! (B5.out.later hb)
   replace bm:=h! (bm.out.later hb)
   replace HW:=h! (HW.out.trans (hb.mono HW.out.size))
   clear hb
   obtain ⟨ac,aj,af⟩:=B3.out
   obtain ⟨ad,ag,ai⟩:=B5.out
   have dj:Hid (fN w6 w6):=h! (Below.refl _ _)
   --@F
   go_upto_region 11 with (fail)
   have bf:w6.heap.size ≠ w.heap.size:=fun e=>by have:=ac;omega
   have nB3B10:w.heap.size ≠ w6.heap.size:=fun e=>bf e.symm
   have bg:w6.heap.size ≠ w.heap.size+1:=fun e=>by have:=ad;omega
   have nB5B10:w.heap.size+1 ≠ w6.heap.size:=fun e=>bg e.symm
   clear ac aj af ad ag ai
   have ao:=(Below.refl w6.heap.size w6).alloc (aC _) (.cells #[.slice ax nx cx,.int .i64 ar,.int .i64 ce,.slice bx mx dx] 25)
   replace B3:=h! (B3.out.later ao)
   replace B5:=h! (B5.out.later ao)
   replace bm:=h! (bm.out.later ao)
   replace dj:=h! (dj.out.later ao)
   replace HW:=h! (HW.out.trans (ao.mono HW.out.size))
   clear ao
   have am:=h! (Box.new w6 #[.slice ax nx cx,.int .i64 ar,.int .i64 ce,.slice bx mx dx] 25)
   generalize w6.alloc (.cells #[.slice ax nx cx,.int .i64 ar,.int .i64 ce,.slice bx mx dx] 25)=w7 at *
   obtain ⟨ac,aj,af⟩:=B3.out
   obtain ⟨ad,ag,ai⟩:=B5.out
   obtain ⟨ae,al,ak⟩:=am.out
   obtain ⟨b10,bj⟩ : ∃ b10,b10=w6.heap.size:=⟨_,rfl⟩
   rw [<-bj] at am
   simp only [<-bj]
   clear bj
   clear ac aj af ad ag ai ae al ak
   obtain ⟨ac,aj,af⟩:=B3.out
   obtain ⟨ad,ag,ai⟩:=B5.out
   obtain ⟨ae,al,ak⟩:=am.out
   rcases HK.out with h2 | ⟨h0,g,hG,hI,er,fk,gh,ds,ec⟩
   ·subst h2
    go_wp2
    go_ret
    exact ⟨rfl,HW.out⟩
   subst h0
   rw [<-cv.out,bc.out] at ds hI
   rw [bc.out] at fk
   rw [ds] at er
   subst fk
   have fm:=h! er
   obtain ⟨_,_,gb,go,ga, -, -, -,dh,fs⟩:=eW hG.blocksOf
   rw [ds] at ga dh
   obtain ⟨_,_,yb,yo,fx, -, -,cL,ea⟩:=hI.parts
   rw [lY] at fx cL ea
   injection ga with e1 e2 e3
   injection fx with e4 e5 e6
   rw [<-e1] at dh
   rw [<-e4] at cL
   obtain ⟨rfl,cd⟩:=dh (by omega)
   have hd:=h! cL
   have hl:Hid (∀ j,j < ny -> w6.cell? ⟨yb,yo+j,none⟩=some (.int .i64 ((nb+j:Nat):Int))):=h! (fun j hj=>by
    rw [ea j hj,getD_some (aBC hj)])
   have he:=h! fs
   have gk:=h! gh
   have hz:Hid (∀ j b,L[j]? = some b -> ∃ x y,f.blocks[b]? = some x/\g.blocks[nb+j]? = some y/\kJ x y):=h! (fun j b hj=>by rw [cv.out];exact ec j b hj)
   have HG:=h! hG
   clear er dh cL fs ea hG hI gh ec ds e1 e2 e3 e4 e5 e6 HK cj
   have ej:w5.heap.size <= w7.heap.size:=Below.size bm.out
   have ef:w6.heap.size <= w7.heap.size:=Below.size dj.out
   go_wp2_with fail
   clear ac aj af ad ag ai ae al ak
   --@G
   go_loopw [13] (fun iv wr => ∃ j:Nat,j <= ny/\iv = .int .i64 j/\Below w7.heap.size w7 wr) (fun iv _=>ny - (intOf iv).toNat)
   case atStart=>exact ⟨0,aH _,rfl,Below.refl _ _⟩
   obtain ⟨j,hj,rfl,hb⟩:=hrel
   have fq:=h! hb
   have bw:Hid (Below w5.heap.size w5 wr):=h! (Below.trans bm.out (hb.mono ej))
   have az:Hid (Below w6.heap.size w6 wr):=h! (Below.trans dj.out (hb.mono ef))
   obtain ⟨ac,aj,af⟩:=B3.out
   obtain ⟨ad,ag,ai⟩:=B5.out
   obtain ⟨ae,al,ak⟩:=am.out
   clear ac aj af ad ag ai ae al ak
   replace B3:=h! (B3.out.later hb)
   replace B5:=h! (B5.out.later hb)
   replace am:=h! (am.out.later hb)
   replace HW:=h! (HW.out.trans (hb.mono HW.out.size))
   clear hb
   obtain ⟨ac,aj,af⟩:=B3.out
   obtain ⟨ad,ag,ai⟩:=B5.out
   obtain ⟨ae,al,ak⟩:=am.out
   generalize wr=w8 at *
   by_cases cm:j < ny
   ·obtain ⟨b,cw⟩ : ∃ b,L[j]? = some b:=⟨_,aB (by rw [bc.out];exact cm)⟩
    obtain ⟨rfl,fM⟩:=hs.out (by omega)
    obtain ⟨rfl,fp⟩:=hd.out (by omega)
    have hbn:b < nb:=cM.out b (aG cw)
    obtain ⟨x,y,hx,hy,gg⟩:=hz.out j b cw
    obtain ⟨dm,cF,dc,di,dd,db,hC⟩:=gx.out b x hx
    obtain ⟨bv,bs,co,cq,ck,cr,hD⟩:=he.out (nb+j) y hy
    have ez:Hid (w8.cell? ⟨lb,lo+j,none⟩=some (.int .i64 (b:Int))):=h! ((bw.out.cell (p:=⟨lb,lo+j,none⟩) fM).trans (gp.out j b cw))
    obtain ⟨nj,eg⟩ : ∃ nj,nj=nb+j:=⟨_,rfl⟩
    have hnjm:nj < mx:=by have:=fm.out;omega
    have ht:Hid ((nj:Int)=(nb:Int)+(j:Int)):=h! (by omega)
    rw [<-eg] at hD
    have dl:Hid (w8.cell? ⟨yb,yo+j,none⟩=some (.int .i64 (nj:Int))):=h! (by rw [eg];exact (az.out.cell (p:=⟨yb,yo+j,none⟩) fp).trans (hl.out j cm))
    have ep:=h! (hC.below HW.out fj)
    have fb:=h! (hD.below az.out cd)
    have bk:lb < w8.heap.size:=aR fM bw.out.size
    have aw:yb < w8.heap.size:=aR fp az.out.size
    have be:bb < w8.heap.size:=aR fj HW.out.size
    have bi:gb < w8.heap.size:=aR cd az.out.size
    have dw:=h! gg
    have fc:Hid (fN w7 w8):=fq
    have cf:Hid (fN w8 w8):=h! (Below.refl _ _)
    have HYC:Hid ((iJ nb ny).length=ny):=h! (lY nb ny)
    clear cw hx hy gg hC hD eg
    go_upto_region 16 with (fail)
    --@H
    refine Seven.wp_region_grow 19 (fun kz=>match kz with | 16=>some 18 | _=>none) (fun ν kz=>match kz with | 16=>.holds (Seven.MadeS (fun b=>.pointer (some ⟨b,0,none⟩)) #[.slice none 0 0,.slice none 0 0,.int .i64 0,.int .i64 0,.slice none 0 0,.int .i64 0]) | 17=>.holds (Seven.MadeS (fun b=>.pointer (some ⟨b,0,none⟩)) #[.slice none 0 0,.slice none 0 0,.int .i64 0,.int .i64 0,.slice none 0 0,.int .i64 0]) | 18=>.holds (Seven.FillS (ν 16).1 #[.slice dm x.phis.length di,.slice cF x.code.length dd,.int .i64 x.term.op,.int .i64 x.term.val,.slice dc x.term.to.length db,.int .i64 x.term.n]) | _=>.plain) (by kernel_rfl) (by kernel_rfl) ?_ ?_ ?_ (fun ν => ?_)
    ·(intro ν k;(try dsimp only);split <;> first | exact True.intro | (intro u φ w1 w2 D hu ho cn hDb cm hn;first | exact Seven.MadeS.off hu ho cn | (exact hu.off ho cn)))
    ·(intro ν ν' k h;first | rfl | ((try dsimp only);split <;> first | rfl | (rw [h 16 (by kernel_rfl)])))
    ·(intro j k h;(try dsimp only at h);split at h <;> first | (cases h;done) | (cases h;exact ⟨by kernel_rfl,by omega⟩))
    simp only [aP,aU,aS,aX]
    iterate 16 (refine Seven.Grow.val (v := ?_) rfl rfl (fun wg hbg hdg => ?_) ?_;rotate_left;(focus ((obtain ⟨lg0,cg0,fg0⟩:=B3.out.later hbg);(obtain ⟨lg1,cg1,fg1⟩:=B5.out.later hbg);(obtain ⟨ff,ew,ey⟩:=am.out.later hbg);(have zl:=(hbg.cell (p:=⟨lb,lo+j,none⟩) bk).trans ez.out;have zy:=(hbg.cell (p:=⟨yb,yo+j,none⟩) aw).trans dl.out;obtain ⟨k0,k1,k2,k3,k4,k5, -, -, -, -, -, -⟩:=ep.out.below hbg be;obtain ⟨j0,j1,j2,j3,j4,j5, -, -, -, -, -, -⟩:=fb.out.below hbg bi);clear hbg hdg;first | (go_simp;done) | (go_simp;with_reducible rfl)));simp only [Act.put,aA,aE,aF])
    iterate 2 (refine Seven.Grow.made (T := ?_) rfl rfl (fun wg hbg hdg => ?_) ?_;rotate_left;(focus ((obtain ⟨lg0,cg0,fg0⟩:=B3.out.later hbg);(obtain ⟨lg1,cg1,fg1⟩:=B5.out.later hbg);(obtain ⟨ff,ew,ey⟩:=am.out.later hbg);(have zl:=(hbg.cell (p:=⟨lb,lo+j,none⟩) bk).trans ez.out;have zy:=(hbg.cell (p:=⟨yb,yo+j,none⟩) aw).trans dl.out;obtain ⟨k0,k1,k2,k3,k4,k5, -, -, -, -, -, -⟩:=ep.out.below hbg be;obtain ⟨j0,j1,j2,j3,j4,j5, -, -, -, -, -, -⟩:=fb.out.below hbg bi);clear hbg hdg;first | (go_simp;done) | (go_simp;with_reducible rfl)));simp only [Act.put,Seven.Known.val,aA,aE,aF])
    refine Seven.Grow.turns rfl (by intro h;cases h) (fun wg hbg hdg => ?_) ?_
    focus ((have hw:Seven.MadeS (fun b=>.pointer (some ⟨b,0,none⟩)) #[.slice none 0 0,.slice none 0 0,.int .i64 0,.int .i64 0,.slice none 0 0,.int .i64 0] (ν 16).1 (ν 16).2 wg:=hdg.fact 16 ⟨by kernel_rfl,.inr rfl⟩);(obtain ⟨bz,eb,fy,dg⟩:=hw);simp only [eb];refine ⟨_, ?_,Foot.one bz,⟨bz,rfl,fun k=>Iff.rfl,(aD1 dg (.slice dm x.phis.length di) (.slice cF x.code.length dd) (.int .i64 x.term.op) (.int .i64 x.term.val) (.slice dc x.term.to.length db) (.int .i64 x.term.n)).2⟩,(oB (aD1 dg (.slice dm x.phis.length di) (.slice cF x.code.length dd) (.int .i64 x.term.op) (.int .i64 x.term.val) (.slice dc x.term.to.length db) (.int .i64 x.term.n)).1).mono (fun q _ hq=>⟨16,rfl,(fy q).2 hq⟩),fun q hq=>⟨.inl ⟨16,rfl,(fy q).2 hq⟩,by cases hq;exact (aD1 dg (.slice dm x.phis.length di) (.slice cF x.code.length dd) (.int .i64 x.term.op) (.int .i64 x.term.val) (.slice dc x.term.to.length db) (.int .i64 x.term.n)).2.lt⟩⟩;obtain ⟨lgz,cgz,fgz⟩:=dg;(obtain ⟨lg0,cg0,fg0⟩:=B3.out.later hbg);(obtain ⟨lg1,cg1,fg1⟩:=B5.out.later hbg);(obtain ⟨ff,ew,ey⟩:=am.out.later hbg);(have zl:=(hbg.cell (p:=⟨lb,lo+j,none⟩) bk).trans ez.out;have zy:=(hbg.cell (p:=⟨yb,yo+j,none⟩) aw).trans dl.out;obtain ⟨k0,k1,k2,k3,k4,k5, -, -, -, -, -, -⟩:=ep.out.below hbg be;obtain ⟨j0,j1,j2,j3,j4,j5, -, -, -, -, -, -⟩:=fb.out.below hbg bi);clear hbg hdg;first | (go_simp;done) | (go_simp;with_reducible rfl))
    simp only [Act.put,Seven.Known.val,aA,aE,aF]
    intro wg hb hf
    obtain ⟨an,ch,bd,bO⟩:=hf.fact 18 ⟨by omega,rfl⟩
    have cc:w8.heap.size <= an:=hf.base 18 an ⟨by omega,rfl⟩ ((bd an).2 rfl)
    have cs:an ≠ w.heap.size:=fun e=>by have:=ac;omega
    have nB3BA:w.heap.size ≠ an:=fun e=>cs e.symm
    have br:an ≠ w.heap.size+1:=fun e=>by have:=ad;omega
    have nB5BA:w.heap.size+1 ≠ an:=fun e=>br e.symm
    have bh:an ≠ b10:=fun e=>by have:=ae;omega
    have nB10BA:b10 ≠ an:=fun e=>bh e.symm
    obtain ⟨ah,bt,ba,cg⟩:=hf.fact 17 ⟨by omega,rfl⟩
    have bq:w8.heap.size <= ah:=hf.base 17 ah ⟨by omega,rfl⟩ ((ba ah).2 rfl)
    have ci:ah ≠ w.heap.size:=fun e=>by have:=ac;omega
    have nB3BB:w.heap.size ≠ ah:=fun e=>ci e.symm
    have ct:ah ≠ w.heap.size+1:=fun e=>by have:=ad;omega
    have nB5BB:w.heap.size+1 ≠ ah:=fun e=>ct e.symm
    have bl:ah ≠ b10:=fun e=>by have:=ae;omega
    have nB10BB:b10 ≠ ah:=fun e=>bl e.symm
    have nBABB:an ≠ ah:=fun e=>hf.apart 18 17 ⟨by omega,rfl⟩ ⟨by omega,rfl⟩ (by omega) an ((bd an).2 rfl) ((ba an).2 e)
    have nBBBA:ah ≠ an:=fun e=>hf.apart 17 18 ⟨by omega,rfl⟩ ⟨by omega,rfl⟩ (by omega) ah ((ba ah).2 rfl) ((bd ah).2 e)
    simp only [ch,bt]
    clear ch bt
    have gBA:=bA HW.out.size cc
    clear cc
    have gBB:=bA HW.out.size bq
    clear bq
    clear ac aj af ad ag ai ae al ak
    have hbv:=hb
    replace B3:=h! (B3.out.later hb)
    replace B5:=h! (B5.out.later hb)
    replace am:=h! (am.out.later hb)
    replace fc:=h! (fc.out.later hb)
    replace cf:=h! (cf.out.later hb)
    replace HW:=h! (HW.out.trans (hb.mono HW.out.size))
    clear hb
    have BA:=h! bO
    clear bO
    have BB:=h! cg
    clear cg
    obtain ⟨ac,aj,af⟩:=B3.out
    obtain ⟨ad,ag,ai⟩:=B5.out
    obtain ⟨ae,al,ak⟩:=am.out
    obtain ⟨dk,dq,cz⟩:=BA.out
    obtain ⟨cG,de,dr⟩:=BB.out
    have fd:w8.heap.size <= ah:=hf.base 17 ah ⟨by omega,rfl⟩ ((ba _).2 rfl)
    have dt:Hid (Below w7.heap.size w7 wg):=fc
    have hz8:w7.heap.size <= w8.heap.size:=fq.out.size
    have bp:Hid (OffF (fun k=>k=ah) wg wg):=h! (Off.refl _ _)
    clear hf
    --@H1
    go_upto_region 17 with (fail)
    clear ac aj af ad ag ai ae al ak dk dq cz cG de dr
    have bn:=((((((Only.set wg (ah) 0 (.slice bv y.phis.length cq)).put 1 (.slice bs y.code.length ck)).put 2 (.int .i64 y.term.op)).put 3 (.int .i64 y.term.val)).put 4 (.slice co y.term.to.length cr)).put 5 (.int .i64 y.term.n))
    replace B3:=h! (B3.out.only bn (by first | assumption | (simp;done) | omega))
    replace B5:=h! (B5.out.only bn (by first | assumption | (simp;done) | omega))
    replace am:=h! (am.out.only bn (by first | assumption | (simp;done) | omega))
    replace BA:=h! (BA.out.only bn (by first | assumption | (simp;done) | omega))
    replace bp:=h! ((((((bp.out.other (p:=⟨ah,0,none⟩) (.slice bv y.phis.length cq) (by simp)).other (p:=⟨ah,1,none⟩) (.slice bs y.code.length ck) (by simp)).other (p:=⟨ah,2,none⟩) (.int .i64 y.term.op) (by simp)).other (p:=⟨ah,3,none⟩) (.int .i64 y.term.val) (by simp)).other (p:=⟨ah,4,none⟩) (.slice co y.term.to.length cr) (by simp)).other (p:=⟨ah,5,none⟩) (.int .i64 y.term.n) (by simp))
    replace HW:=h! (bn.2.2 HW.out (by first | assumption | omega | (have:=HW.out.size;omega) | (simp;done) | (simp;omega)))
    replace BB:=h! (Box.to (A':=#[(.slice bv y.phis.length cq),(.slice bs y.code.length ck),(.int .i64 y.term.op),(.int .i64 y.term.val),(.slice co y.term.to.length cr),(.int .i64 y.term.n)]) ((((((BB.out.set 0 (.slice bv y.phis.length cq)).set 1 (.slice bs y.code.length ck)).set 2 (.int .i64 y.term.op)).set 3 (.int .i64 y.term.val)).set 4 (.slice co y.term.to.length cr)).set 5 (.int .i64 y.term.n)) (by first | rfl | simp))
    clear bn
    generalize ((((((wg.setCell ⟨ah,0,none⟩ (.slice bv y.phis.length cq)).setCell ⟨ah,1,none⟩ (.slice bs y.code.length ck)).setCell ⟨ah,2,none⟩ (.int .i64 y.term.op)).setCell ⟨ah,3,none⟩ (.int .i64 y.term.val)).setCell ⟨ah,4,none⟩ (.slice co y.term.to.length cr)).setCell ⟨ah,5,none⟩ (.int .i64 y.term.n))=w9 at *
    obtain ⟨ac,aj,af⟩:=B3.out
    obtain ⟨ad,ag,ai⟩:=B5.out
    obtain ⟨ae,al,ak⟩:=am.out
    obtain ⟨dk,dq,cz⟩:=BA.out
    obtain ⟨cG,de,dr⟩:=BB.out
    --@H2
    have es:Hid (fN w7 w9):=h! (dt.out.trans (Off.below bp.out dt.out.size (fun k _ hk=>by have e:k=ah:=hk;omega)))
    have fo:yb < wg.heap.size:=aR aw cf.out.size
    have fh:=(Off.cellA bp.out (p:=⟨yb,yo+j,none⟩) fo (fun h=>by have e:yb=ah:=h;omega)).trans ((cf.out.cell (p:=⟨yb,yo+j,none⟩) aw).trans dl.out)
    have ed:yb < w9.heap.size:=aR fo (Off.size bp.out)
    have gB:=h! fh
    have hsum:IntKind.i64.wrap ((nb:Int)+(j:Int))=(nj:Int):=by rw [lC ⟨by omega,by omega⟩];exact ht.out.symm
    have hne0:((nj:Int) != (nj:Int))=false:=by simp
    have hpl:((x.phis.length:Int) != (y.phis.length:Int))=false:=by rw [dw.out.1];simp
    have ec:((x.code.length:Int) != (y.code.length:Int))=false:=by rw [dw.out.2.1];simp
    have hop:(x.term.op != y.term.op)=false:=by rw [dw.out.2.2];simp
    clear fh fd dt bp cf bd ba
    --@H3
    refine wp_region_grow 37 (fun _=>.plain) (by kernel_rfl) (by kernel_rfl) ?_ (fun ν => ?_)
    ·exact fun _=>trivial
    simp only [aP,aU,aS,aX]
    iterate 37 (refine Grow.val (v := ?_) rfl rfl (fun wg hbg hdg => ?_) ?_;rotate_left;(focus ((obtain ⟨lg0,cg0,fg0⟩:=B3.out.later hbg);(obtain ⟨lg1,cg1,fg1⟩:=B5.out.later hbg);(obtain ⟨ff,ew,ey⟩:=am.out.later hbg);(obtain ⟨lg3,cg3,fg3⟩:=BA.out.later hbg);(obtain ⟨lg4,cg4,fg4⟩:=BB.out.later hbg);(have zy:=(hbg.cell (p:=⟨yb,yo+j,none⟩) ed).trans gB.out);clear hbg hdg;first | (go_simp;done) | (go_simp;with_reducible rfl)));simp only [Act.put,aA,aE,aF])
    intro wg hb hf ei
    clear ei
    clear ac aj af ad ag ai ae al ak dk dq cz cG de dr
    replace B3:=h! (B3.out.later hb)
    replace B5:=h! (B5.out.later hb)
    replace am:=h! (am.out.later hb)
    replace BA:=h! (BA.out.later hb)
    replace BB:=h! (BB.out.later hb)
    replace es:=h! (es.out.later hb)
    replace HW:=h! (HW.out.trans (hb.mono HW.out.size))
    clear hb
    obtain ⟨ac,aj,af⟩:=B3.out
    obtain ⟨ad,ag,ai⟩:=B5.out
    obtain ⟨ae,al,ak⟩:=am.out
    obtain ⟨dk,dq,cz⟩:=BA.out
    obtain ⟨cG,de,dr⟩:=BB.out
    clear hf
    --@H4
    go_wp2
    go_roundw
    case rel=>exact ⟨j+1,cm,by go_num,es.out⟩
    simp [intOf];omega
   obtain rfl:ny=j:=by omega
   --@K
   have hq:((mx:Int) == (nb:Int)+(ny:Int))=true:=by have:=fm.out;simp;omega
   go_wp2_with fail
   refine (vC (HG.out.below az.out)).mono ?_
   rintro e w9 ⟨rfl,hb⟩
   rw [gk.out]
   clear ac aj af ad ag ai ae al ak
   replace B3:=h! (B3.out.later hb)
   replace B5:=h! (B5.out.later hb)
   replace am:=h! (am.out.later hb)
   replace HW:=h! (HW.out.trans (hb.mono HW.out.size))
   clear hb
   obtain ⟨ac,aj,af⟩:=B3.out
   obtain ⟨ad,ag,ai⟩:=B5.out
   obtain ⟨ae,al,ak⟩:=am.out
   go_wp2
   go_ret
   exact ⟨rfl,HW.out⟩
end
end Go.Proofs.YtagabiidbbhhmaaGreat
