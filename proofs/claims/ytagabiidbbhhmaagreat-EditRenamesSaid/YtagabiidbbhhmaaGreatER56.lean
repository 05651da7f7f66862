/- Part 56. -/
import Derived.Test.YtagabiidbbhhmaaGreatER52
import Derived.Test.YtagabiidbbhhmaaGreatER54
namespace Go.Proofs.YtagabiidbbhhmaaGreat
set_option maxHeartbeats 6400000
set_option linter.all false
section
open Go.RowKit
theorem tR (W:World) (v:Value) (f:FuncD) (hv:fU W v f):Calls Tryz.prog 11 #[v] W (RenR f W):=xT (fun _ _ _ h1 h2 h3=>aCM h1 h2 h3) hv
theorem zS {w:World} {v v' : Value} {f g:FuncD} (hf:fU w v f) (hg:fU w v' g) :
  Calls Tryz.prog 15 #[v,v'] w fun e w' => ∃ r,e = .returned (.bool r)/\oM f g r/\Below w.heap.size w w':=zM tR hf hg
theorem oP:gY gU 0 0:=by
 refine .inr ⟨fun d hd => ?_,.inr ⟨fun d y hy => ?_,.inr ⟨fun v hv => ?_,rfl,rfl⟩⟩⟩
 ·have h1:d < 1:=hd
  obtain rfl:d=0:=by omega
  exact .zero (by decide)
 ·have h1:=(aF.1 hy).1
  have h2:d < 1:=h1
  obtain rfl:d=0:=by omega
  have h3:some (⟨[],[⟨1,0,[],5⟩],⟨3,0,[],0⟩⟩ : BlockD)=some y:=hy
  injection h3 with h3
  rw [<-h3];rfl
 have h9:∀ v ∈ uxF gU,v.id=0/\v.blk=0/\v.pos=1:=by decide
 obtain ⟨h1,h2,h3⟩:=h9 v hv
 exact ⟨0,0,by rw [h1,rI];rfl,.inr ⟨by omega,.inl ⟨h2.symm,by omega⟩⟩⟩
theorem lO {g:FuncD} {k:Int} (h:RenP gU g k):g=gU/\k=0:=by
 have h0:SErr gU 0:=.inr ⟨uU.1,0,oP⟩
 obtain ⟨s,h1,h2⟩:=h
 obtain rfl:=h1.one h0
 rcases h2 with ⟨n,_⟩ | ⟨_,rfl,O,hO,rfl⟩
 ·exact absurd rfl n
 obtain ⟨q1, -,q3,q4, -⟩:=hO.facts
 have q5:∀ b ∈ O,b=0:=fun b hb=>by have h9:b < 1:=q3 b hb;omega
 have:O=[0]:=by
  match O,q1,q4,q5 with
  | [],_,h,_=>simp at h
  | [a],_,_,h=>rw [h a (by simp)]
  | a :: b :: l,h,_,h2 =>
   exfalso
   rw [eH] at h
   exact h.1 (by rw [h2 a (by simp), <-h2 b (by simp)];simp)
 subst this
 exact ⟨by decide,rfl⟩
theorem pQ {r:Bool} (h:oM gU gU r):r=true:=by
 obtain ⟨a,b,k,q,h1,h2,rfl⟩:=h
 obtain ⟨rfl,rfl⟩:=lO h1
 obtain ⟨rfl,rfl⟩:=lO h2
 simp
theorem aFI {w:World}:Calls Tryz.prog 13 #[] w fun e w'=>e = .returned (.bool true)/\Below w.heap.size w w':=by
 go_enter Tryz.func13,Tryz.ntmps13
 go_upto_region 2 with (fail)
 have aa:=(Below.refl w.heap.size w).alloc (aB _) (.cells #[.int .i64 1,.int .i64 0,.slice none 0 0,.int .i64 5] 82)
 have HW:=h! aa
 clear aa
 have B0:=h! (Box.new w #[.int .i64 1,.int .i64 0,.slice none 0 0,.int .i64 5] 82)
 have ak:(w.alloc (.cells #[.int .i64 1,.int .i64 0,.slice none 0 0,.int .i64 5] 82)).heap.size=w.heap.size+1:=World.size_alloc _ _
 generalize w.alloc (.cells #[.int .i64 1,.int .i64 0,.slice none 0 0,.int .i64 5] 82)=an at *
 have aa:=(Below.refl an.heap.size an).alloc (aB _) (.cells #[.slice none 0 0,.slice (some ⟨w.heap.size,0,none⟩) 1 1,.int .i64 3,.int .i64 0,.slice none 0 0,.int .i64 0] 63)
 replace B0:=h! (B0.out.later aa)
 replace HW:=h! (HW.out.trans (aa.mono HW.out.size))
 clear aa
 have B1:=h! (Box.new an #[.slice none 0 0,.slice (some ⟨w.heap.size,0,none⟩) 1 1,.int .i64 3,.int .i64 0,.slice none 0 0,.int .i64 0] 63)
 rw [ak] at B1
 have al:(an.alloc (.cells #[.slice none 0 0,.slice (some ⟨w.heap.size,0,none⟩) 1 1,.int .i64 3,.int .i64 0,.slice none 0 0,.int .i64 0] 63)).heap.size=w.heap.size+1+1:=by rw [World.size_alloc,ak]
 clear ak
 generalize an.alloc (.cells #[.slice none 0 0,.slice (some ⟨w.heap.size,0,none⟩) 1 1,.int .i64 3,.int .i64 0,.slice none 0 0,.int .i64 0] 63)=aw at *
 have aa:=(Below.refl aw.heap.size aw).alloc (aB _) (.cells #[.slice none 0 0,.int .i64 0,.int .i64 0,.slice (some ⟨w.heap.size+1,0,none⟩) 1 1] 25)
 replace B0:=h! (B0.out.later aa)
 replace B1:=h! (B1.out.later aa)
 replace HW:=h! (HW.out.trans (aa.mono HW.out.size))
 clear aa
 have B2:=h! (Box.new aw #[.slice none 0 0,.int .i64 0,.int .i64 0,.slice (some ⟨w.heap.size+1,0,none⟩) 1 1] 25)
 rw [al] at B2
 clear al
 generalize aw.alloc (.cells #[.slice none 0 0,.int .i64 0,.int .i64 0,.slice (some ⟨w.heap.size+1,0,none⟩) 1 1] 25)=wv at *
 obtain ⟨ac,aj,ah⟩:=B0.out
 obtain ⟨ad,ag,ai⟩:=B1.out
 obtain ⟨ab,ae,af⟩:=B2.out
 go_wp2_with fail
 refine (tR _ _ _ (kF B0.out B1.out)).mono ?_
 rintro e w2 ⟨g,k,v2,S2,hp,rfl,hO,hF,hb⟩
 obtain ⟨rfl,rfl⟩:=lO hp
 obtain ⟨ax,cx,bx,dx,rfl, -, -, -, -⟩:=hO.reads.form
 have HA:=h! (iV hO hF)
 clear hp hO hF
 obtain ⟨pl,bb⟩ : ∃ pl,pl=gU.params.length:=⟨_,rfl⟩
 obtain ⟨ar,ba⟩ : ∃ ar,ar=gU.arrays:=⟨_,rfl⟩
 obtain ⟨ce,bd⟩ : ∃ ce,ce=gU.cells:=⟨_,rfl⟩
 obtain ⟨bl,bc⟩ : ∃ bl,bl=gU.blocks.length:=⟨_,rfl⟩
 rw [<-bb, <-ba, <-bd, <-bc] at HA
 rw [<-bb, <-ba, <-bd, <-bc]
 clear bb ba bd bc
 clear ac aj ah ad ag ai ab ae af
 replace B0:=h! (B0.out.later hb)
 replace B1:=h! (B1.out.later hb)
 replace B2:=h! (B2.out.later hb)
 replace HW:=h! (HW.out.trans (hb.mono HW.out.size))
 clear hb
 obtain ⟨ac,aj,ah⟩:=B0.out
 obtain ⟨ad,ag,ai⟩:=B1.out
 obtain ⟨ab,ae,af⟩:=B2.out
 go_upto_region 3 with (fail)
 replace HA:=h! (HA.out.more (aB _))
 have ao:w2.heap.size ≠ w.heap.size:=fun e=>by have:=ac;omega
 have nB0B3:w.heap.size ≠ w2.heap.size:=fun e=>ao e.symm
 have am:w2.heap.size ≠ w.heap.size+1:=fun e=>by have:=ad;omega
 have nB1B3:w.heap.size+1 ≠ w2.heap.size:=fun e=>am e.symm
 have ap:w2.heap.size ≠ w.heap.size+1+1:=fun e=>by have:=ab;omega
 have nB2B3:w.heap.size+1+1 ≠ w2.heap.size:=fun e=>ap e.symm
 clear ac aj ah ad ag ai ab ae af
 have aa:=(Below.refl w2.heap.size w2).alloc (aB _) (.cells #[.slice ax pl cx,.int .i64 ar,.int .i64 ce,.slice bx bl dx] 25)
 replace B0:=h! (B0.out.later aa)
 replace B1:=h! (B1.out.later aa)
 replace B2:=h! (B2.out.later aa)
 replace HA:=h! (HA.out.later aa)
 replace HW:=h! (HW.out.trans (aa.mono HW.out.size))
 clear aa
 have B3:=h! (Box.new w2 #[.slice ax pl cx,.int .i64 ar,.int .i64 ce,.slice bx bl dx] 25)
 generalize w2.alloc (.cells #[.slice ax pl cx,.int .i64 ar,.int .i64 ce,.slice bx bl dx] 25)=w3 at *
 obtain ⟨ac,aj,ah⟩:=B0.out
 obtain ⟨ad,ag,ai⟩:=B1.out
 obtain ⟨ab,ae,af⟩:=B2.out
 obtain ⟨az,ay,aq⟩:=B3.out
 go_wp2_with fail
 refine (uS (kF B0.out B1.out) HA.out.now.reads).mono ?_
 rintro e w4 ⟨he,hb⟩
 rw [decide_eq_true rfl] at he
 subst he
 clear ac aj ah ad ag ai ab ae af az ay aq
 replace B0:=h! (B0.out.later hb)
 replace B1:=h! (B1.out.later hb)
 replace B2:=h! (B2.out.later hb)
 replace B3:=h! (B3.out.later hb)
 replace HA:=h! (HA.out.later hb)
 replace HW:=h! (HW.out.trans (hb.mono HW.out.size))
 clear hb
 obtain ⟨ac,aj,ah⟩:=B0.out
 obtain ⟨ad,ag,ai⟩:=B1.out
 obtain ⟨ab,ae,af⟩:=B2.out
 obtain ⟨az,ay,aq⟩:=B3.out
 go_wp2_with fail
 refine (zS (kF B0.out B1.out) (kF B0.out B1.out)).mono ?_
 rintro e w5 ⟨r,rfl,hq,hb⟩
 obtain rfl:=pQ hq
 clear hq
 clear ac aj ah ad ag ai ab ae af az ay aq
 replace B0:=h! (B0.out.later hb)
 replace B1:=h! (B1.out.later hb)
 replace B2:=h! (B2.out.later hb)
 replace B3:=h! (B3.out.later hb)
 replace HA:=h! (HA.out.later hb)
 replace HW:=h! (HW.out.trans (hb.mono HW.out.size))
 clear hb
 obtain ⟨ac,aj,ah⟩:=B0.out
 obtain ⟨ad,ag,ai⟩:=B1.out
 obtain ⟨ab,ae,af⟩:=B2.out
 obtain ⟨az,ay,aq⟩:=B3.out
 go_wp2
 go_ret
 exact ⟨rfl,HW.out⟩
theorem rZ {w:World} {v:Value} {xs:List Int} {x:Int} (hs:Ints w v xs) :
  Calls Tryz.prog 44 #[v,.int .i64 x] w fun e w'=>e = .returned (.int .i64 (idxI xs x))/\w=w':=by
 have ae:=hs.le
 obtain ⟨a,cap,b,off,rfl,h1,h2,h3,h4⟩:=hs.parts
 obtain ⟨n,hn⟩ : ∃ n,n=xs.length:=⟨_,rfl⟩
 rw [<-hn] at h1 h3 ae ⊢
 have HN:=h! hn
 have H3:=h! h3
 have H4:=h! h4
 clear hs h3 h4 hn
 go_enter Tryz.func44,Tryz.ntmps44
 go_wp2_with fail
 go_loopw [5] (fun i wr => ∃ k:Nat,k <= n/\i = .int .i64 k/\x ∉ xs.take k/\wr=w) (fun i _=>n - (intOf i).toNat)
 case atStart=>exact ⟨0,aJ _,rfl,by simp,rfl⟩
 case round =>
  obtain ⟨k,hk,rfl,ac,rfl⟩:=hrel
  have aa:=h! ac
  clear ac
  by_cases hlt:k < n
  ·obtain ⟨rfl,hb⟩:=H3.out (by omega)
   obtain ⟨y,hy⟩ : ∃ y,xs[k]? = some y:=⟨_,aC (by have:=HN.out;omega)⟩
   have hc:=H4.out k (by have:=HN.out;omega)
   rw [show xs.getD k 0=y by rw [aK,hy];rfl] at hc
   have HY:=h! hy
   clear hy
   cases hxy:(y == x)
   ·have ab:=h! hxy
    go_wp2
    go_roundw
    case rel=>exact ⟨k+1,hlt,by go_num,by rw [eT xs k y HY.out];have:=ab.out;have:=aa.out;simp at *;grind,trivial⟩
    simp [intOf];omega
   have ab:=h! hxy
   go_wp2
   go_ret
   have e:y=x:=by have:=ab.out;simp at this;grind
   exact ⟨by rw [qX (e ▸ HY.out) aa.out];rfl,rfl⟩
  obtain rfl:k=n:=by omega
  have ad:Hid (x ∉ xs):=h! (by have:=aa.out;rwa [aH (by have:=HN.out;omega)] at this)
  go_wp2
  go_ret
  exact ⟨by rw [qY ad.out];rfl,rfl⟩
end
section
open Go.RowKit
def selJ (O:List Nat) (p:PhiD) (j:Nat):List Nat:=(List.range j).filter fun b=>p.src.contains ((O.getD b 0:Nat):Int)
def srcJ (O:List Nat) (p:PhiD) (j:Nat):List Int:=(selJ O p j).map fun b:Nat=>(b:Int)
def valJ (O:List Nat) (p:PhiD) (j:Nat):List Int:=(selJ O p j).map fun b:Nat=>p.vals.getD (p.src.idxOf ((O.getD b 0:Nat):Int)) 0
theorem wV (O:List Nat) (p:PhiD):iD O p=⟨p.id,p.typ,srcJ O p O.length,valJ O p O.length⟩:=rfl
theorem aCJ {O:List Nat} {p:PhiD} {j:Nat} (h:((O.getD j 0:Nat):Int) ∈ p.src):srcJ O p (j+1)=srcJ O p j ++ [(j:Int)]/\valJ O p (j+1)=valJ O p j ++ [p.vals.getD (p.src.idxOf ((O.getD j 0:Nat):Int)) 0]:=by
 have e:selJ O p (j+1)=selJ O p j ++ [j]:=by
  unfold selJ
  rw [eF,dH]
  congr 1
  rw [List.filter_cons,if_pos (by simpa using h)];rfl
 unfold srcJ valJ
 rw [e,aZ,aZ];exact ⟨rfl,rfl⟩
theorem aDY {O:List Nat} {p:PhiD} {j:Nat} (h:((O.getD j 0:Nat):Int) ∉ p.src):srcJ O p (j+1)=srcJ O p j/\valJ O p (j+1)=valJ O p j:=by
 have e:selJ O p (j+1)=selJ O p j:=by
  unfold selJ
  rw [eF,dH]
  rw [List.filter_cons,if_neg (by simpa using h)];simp
 unfold srcJ valJ
 rw [e];exact ⟨rfl,rfl⟩
theorem aDZ (O:List Nat) (p:PhiD) (j:Nat):(srcJ O p j).length <= j/\(valJ O p j).length=(srcJ O p j).length:=by
 unfold srcJ valJ
 rw [aW,aW]
 exact ⟨by unfold selJ;exact bE (List.length_filter_le _ _) (by simp),rfl⟩
def aFJ (O:List Nat) (p:PhiD) (w:World) (e:Ending) (w' : World):Prop := ∃ (sv uv:Value) (S:Foot),e = .returned (.agg #[.int .i64 p.id,.int .i64 p.typ,sv,uv])/\OPhi w' S [.int .i64 p.id,.int .i64 p.typ,sv,uv] (iD O p)/\mB w.heap.size S/\Below w.heap.size w w'
set_option maxHeartbeats 6400000 in
set_option maxRecDepth 100000 in
theorem wW {w:World} {v ov:Value} {p:PhiD} {O:List Nat} (hp:PhiV w v p) (hid:In64 p.id) (htp:In64 p.typ) (hO:Ints w ov (O.map fun b:Nat=>(b:Int))) (hl:p.src.length=p.vals.length) (hn:O.length <= 512) :
  Calls Tryz.prog 42 #[v,ov] w (aFJ O p w):=by
 obtain ⟨s,u,rfl,hs,hu⟩:=hp
 obtain ⟨sa,sc,rfl⟩:=hs.form
 obtain ⟨ua,uc,rfl⟩:=hu.form
 have HS:=h! hs
 have HU:=h! hu
 have HO:=h! hO
 have HL:=h! hl
 have cl:=h! (And.intro hid htp)
 obtain ⟨n,bj⟩ : ∃ n,n=O.length:=⟨_,rfl⟩
 obtain ⟨ns,bq⟩ : ∃ n,n=p.src.length:=⟨_,rfl⟩
 obtain ⟨nv,bs⟩ : ∃ n,n=p.vals.length:=⟨_,rfl⟩
 obtain ⟨oa,oc,ob,oo,rfl,cy,hom,ca,cm⟩:=hO.parts
 rw [aW, <-bj] at HO cy ca
 rw [aW, <-bj, <-bq, <-bs]
 have cs:=h! ca
 have cM:=h! cm
 clear ca cm
 rw [<-bj] at hn
 rw [<-bq] at HS
 rw [<-bs] at HU
 have HN:=h! (And.intro bj (And.intro bq bs))
 clear hs hu hO hl hid htp bj bq bs
 go_enter Tryz.func42,Tryz.ntmps42
 go_upto_region 1 with (fail)
 have ak:=(Below.refl w.heap.size w).alloc (aB _) (.cells #[.int .i64 p.id,.int .i64 p.typ,.slice sa ns sc,.slice ua nv uc] 78)
 have HW:=h! ak
 clear ak
 have B1:=h! (Box.new w #[.int .i64 p.id,.int .i64 p.typ,.slice sa ns sc,.slice ua nv uc] 78)
 have bk:(w.alloc (.cells #[.int .i64 p.id,.int .i64 p.typ,.slice sa ns sc,.slice ua nv uc] 78)).heap.size=w.heap.size+1:=World.size_alloc _ _
 generalize w.alloc (.cells #[.int .i64 p.id,.int .i64 p.typ,.slice sa ns sc,.slice ua nv uc] 78)=bp at *
 have ak:=(Below.refl bp.heap.size bp).alloc (aB _) (.cells #[.int .i64 0,.int .i64 0,.slice none 0 0,.slice none 0 0] 78)
 replace B1:=h! (B1.out.later ak)
 replace HW:=h! (HW.out.trans (ak.mono HW.out.size))
 clear ak
 have B2:=h! (Box.new bp #[.int .i64 0,.int .i64 0,.slice none 0 0,.slice none 0 0] 78)
 rw [bk] at B2
 clear bk
 generalize bp.alloc (.cells #[.int .i64 0,.int .i64 0,.slice none 0 0,.slice none 0 0] 78)=wv at *
 obtain ⟨ab,af,ae⟩:=B1.out
 obtain ⟨aa,ac,ad⟩:=B2.out
 have bO:=h! aa
 go_upto_region 2 with (fail)
 have bf:wv.heap.size ≠ w.heap.size:=fun e=>by have:=ab;omega
 have nB1B5:w.heap.size ≠ wv.heap.size:=fun e=>bf e.symm
 have az:wv.heap.size ≠ w.heap.size+1:=fun e=>by have:=aa;omega
 have nB2B5:w.heap.size+1 ≠ wv.heap.size:=fun e=>az e.symm
 clear ab af ae aa ac ad
 have ak:=(Below.refl wv.heap.size wv).alloc (aB _) (.cells #[.int .i64 p.id,.int .i64 p.typ,.slice none 0 0,.slice none 0 0] 78)
 replace B1:=h! (B1.out.later ak)
 replace B2:=h! (B2.out.later ak)
 replace HW:=h! (HW.out.trans (ak.mono HW.out.size))
 clear ak
 have B5:=h! (Box.new wv #[.int .i64 p.id,.int .i64 p.typ,.slice none 0 0,.slice none 0 0] 78)
 generalize wv.alloc (.cells #[.int .i64 p.id,.int .i64 p.typ,.slice none 0 0,.slice none 0 0] 78)=w4 at *
 obtain ⟨ab,af,ae⟩:=B1.out
 obtain ⟨aa,ac,ad⟩:=B2.out
 obtain ⟨ah,ai,aj⟩:=B5.out
 generalize wv.heap.size=b5 at *
 go_wp2_with fail
 go_loopw [6] (fun iv wr => ∃ (j m:Nat) (a3 a4:Option Addr) (c3 c4:Nat) (S3 S4:Foot),j <= n/\iv = .int .i64 j/\m=(srcJ O p j).length/\Below w.heap.size w wr/\Box wr w.heap.size #[.int .i64 p.id,.int .i64 p.typ,.slice sa ns sc,.slice ua nv uc]/\Box wr (w.heap.size+1) #[.int .i64 0,.int .i64 0,.slice none 0 0,.slice none 0 0]/\Box wr b5 #[.int .i64 p.id,.int .i64 p.typ,.slice a3 m c3,.slice a4 m c4] /\
   Holds [w.heap.size,w.heap.size+1,b5] (w.heap.size+1+1) wr S3 (fun W=>eU W S3 (.slice a3 m c3) (srcJ O p j))/\Holds [w.heap.size,w.heap.size+1,b5] (w.heap.size+1+1) wr S4 (fun W=>eU W S4 (.slice a4 m c4) (valJ O p j))/\S3.off S4) (fun iv _=>n - (intOf iv).toNat)
 case atStart=>exact ⟨0,0,none,none,0,0,Foot.none,Foot.none,aJ _,rfl,rfl,HW.out,B1.out,B2.out,B5.out,⟨eU.nil none,fun _ _ h hk=>h.keep hk,fun k h=>h.elim,fun k h=>h.elim,fun k h=>h.elim⟩,⟨eU.nil none,fun _ _ h hk=>h.keep hk,fun k h=>h.elim,fun k h=>h.elim,fun k h=>h.elim⟩,fun k h=>h.elim⟩
 case round =>
  obtain ⟨j,m,a3,a4,c3,c4,S3,S4,hj,rfl,hm,hW,h1,h2,h3,h4,h5,h6⟩:=hrel
  clear ab af ae aa ac ad ah ai aj
  replace HW:=h! hW
  replace B1:=h! h1
  replace B2:=h! h2
  replace B5:=h! h3
  have H3:=h! h4
  have H4:=h! h5
  have bo:=h! h6
  have HM:=h! hm
  clear hW h1 h2 h3 h4 h5 h6 hm
  generalize wr=w6 at *
  obtain ⟨ab,af,ae⟩:=B1.out
  obtain ⟨aa,ac,ad⟩:=B2.out
  obtain ⟨ah,ai,aj⟩:=B5.out
  have hb5w:=bO.out
  by_cases hlt:j < n
  ·obtain ⟨rfl,bl⟩:=cs.out (by omega)
   obtain ⟨q,hq⟩ : ∃ q:Int,q=((O.getD j 0:Nat):Int):=⟨_,rfl⟩
   have co:O[j]? = some (O.getD j 0):=by rw [aK];have h9:=HN.out.1;rw [aC (by omega)];rfl
   have cq:Hid (w.cell? ⟨ob,oo+j,none⟩=some (.int .i64 q)):=h! (by
    have h9:=cM.out j (by rw [aW, <-HN.out.1];exact hlt)
    rw [aK,aQ,co] at h9
    rw [hq];exact h9)
   obtain ⟨t,ht⟩ : ∃ t,t=idxI p.src q:=⟨_,rfl⟩
   have ct:Hid (∀ W,Below w.heap.size w W -> Calls Tryz.prog 44 #[.slice sa ns sc,.int .i64 q] W fun e w'=>e = .returned (.int .i64 t)/\Below W.heap.size W w'):=h! (fun W hb=>by
    rw [ht]
    refine (rZ (HS.out.below hb)).mono ?_
    rintro e w' ⟨rfl,rfl⟩
    exact ⟨rfl,Below.refl _ _⟩)
   have bd:Hid (q=((O.getD j 0:Nat):Int)/\t=idxI p.src q):=h! ⟨hq,ht⟩
   clear hq ht co
   go_upto_region 5 with (fail)
   refine wp_region_grow 8 (fun kz=>match kz with | 6=>.const (.int .i64 t) | _=>.plain) (by kernel_rfl) (by kernel_rfl) ?_ (fun ν => ?_)
   ·(intro k;(try dsimp only);split <;> first | exact True.intro | (intro u w1 w2 hu hb;exact hu.below hb))
   simp only [aO,aS,aP,aU]
   iterate 6 (refine Grow.val (v := ?_) rfl rfl (fun wg hbg hdg => ?_) ?_;rotate_left;(focus ((obtain ⟨lg0,cg0,fg0⟩:=B1.out.later hbg);(obtain ⟨lg1,cg1,fg1⟩:=B2.out.later hbg);(obtain ⟨lg2,cg2,fg2⟩:=B5.out.later hbg);(have xoc:=((HW.out.trans (hbg.mono HW.out.size)).cell (p:=⟨ob,oo+j,none⟩) bl).trans cq.out);clear hbg hdg;first | (go_simp;done) | (go_simp;with_reducible rfl)));simp only [Act.put,aA,aD,aE])
   refine Grow.call (f := ?_) (args := ?_) rfl (fun wg => ?_) (fun wg hbg hdg => ?_) ?_
   rotate_left 2
   focus (first | (go_simp;done) | (go_simp;refine And.intro ?_ ?_ <;> with_reducible rfl) | (go_simp;with_reducible rfl))
   focus exact Calls.mono (ct.out wg (HW.out.trans (hbg.mono HW.out.size))) (fun e w2 ⟨he,hb2⟩=>⟨_,he,rfl,hb2⟩)
   simp only [Act.put,Known.val,aA,aD,aE]
   refine Grow.val (v := ?_) rfl rfl (fun wg hbg hdg => ?_) ?_
   rotate_left
   focus ((obtain ⟨lg0,cg0,fg0⟩:=B1.out.later hbg);(obtain ⟨lg1,cg1,fg1⟩:=B2.out.later hbg);(obtain ⟨lg2,cg2,fg2⟩:=B5.out.later hbg);(have xoc:=((HW.out.trans (hbg.mono HW.out.size)).cell (p:=⟨ob,oo+j,none⟩) bl).trans cq.out);clear hbg hdg;first | (go_simp;done) | (go_simp;with_reducible rfl))
   simp only [Act.put,aA,aD,aE]
   intro wg hb hf cd
   clear cd
   clear ab af ae aa ac ad ah ai aj
   replace B1:=h! (B1.out.later hb)
   replace B2:=h! (B2.out.later hb)
   replace B5:=h! (B5.out.later hb)
   replace H3:=h! (H3.out.later hb)
   replace H4:=h! (H4.out.later hb)
   replace HW:=h! (HW.out.trans (hb.mono HW.out.size))
   clear hb
   obtain ⟨ab,af,ae⟩:=B1.out
   obtain ⟨aa,ac,ad⟩:=B2.out
   obtain ⟨ah,ai,aj⟩:=B5.out
   clear hf
   by_cases hmem:q ∈ p.src
   ·obtain ⟨kn,br⟩ : ∃ kn,kn=p.src.idxOf q:=⟨_,rfl⟩
    have cB:kn < ns:=by rw [br,HN.out.2.1];exact bM hmem
    have hknv:kn < nv:=by have:=HL.out;have:=HN.out;omega
    have ce:t=(kn:Int):=by rw [bd.out.2,aCY hmem,br]
    subst ce
    obtain ⟨y,hy⟩ : ∃ y,p.vals[kn]? = some y:=⟨_,aC (by rw [<-HL.out, <-HN.out.2.1];exact cB)⟩
    have ap:=h! (aCJ (O:=O) (p:=p) (j:=j) (by rw [<-bd.out.1];exact hmem))
    have cF:Hid (p.vals.getD (p.src.idxOf ((O.getD j 0:Nat):Int)) 0=y):=h! (by rw [<-bd.out.1, <-br,aK,hy];rfl)
    have HY:=h! hy
    have cp:=h! (aDZ O p j)
    have hmj:m <= j:=by rw [HM.out];exact cp.out.1
    clear hmem br hy
    have hge:decide ((kn:Int) >= 0)=true:=by simp
    obtain ⟨u1,u2,ub,uo,cw,huc,hum,ci,ch⟩:=HU.out.parts
    injection cw with q1 q2 q3
    subst q1
    subst q3
    clear q2
    obtain ⟨rfl,bz⟩:=ci (by have:=HL.out;have:=HN.out;omega)
    have db:Hid (w.cell? ⟨ub,uo+kn,none⟩=some (.int .i64 y)):=h! (by
     have h9:=ch kn (by have:=HL.out;have:=HN.out;omega)
     rw [aK,HY.out] at h9;exact h9)
    have cb:=h! (HU.out.2 y (aG HY.out))
    have dc:Hid ((valJ O p j).length=m):=h! (by rw [cp.out.2,HM.out])
    clear ci ch
    go_upto_region 7 with (fail)
    have bt:Hid (In64 (j:Int)):=h! ⟨by omega,by omega⟩
    have cG:Hid (∀ k,S4 k -> k < wg.heap.size):=h! H4.out.lt
    have cr:Hid (w.heap.size <= wg.heap.size/\b5 < wg.heap.size):=h! ⟨HW.out.size,B5.out.lt⟩
    go_upto_region 8 with (at_builtin;go_loud (refine uN rfl _ _ rfl rfl rfl HM.out.symm (H3.out.alloc _).now (Box.new _ _ _) bt.out (by omega) ?_);intro g an w2 hO hG ao;have da:=(B5.out.alloc (.cells #[.int .i64 j] 3)).off ao (fun hk=>H3.out.free _ hk (by simp));obtain ⟨lx,cx,fx⟩:=da)
    clear lx cx fx
    clear ab af ae aa ac ad ah ai aj
    have aq:Below wg.heap.size wg (wg.alloc (.cells #[.int .i64 j] 3)):=(Below.refl _ _).alloc (aB _) _
    replace HW:=h! ((HW.out.trans (aq.mono HW.out.size)).trans (ao.below (base:=w.heap.size) (bE HW.out.size aq.size) (fun k _ hk=>by have:=H3.out.base k hk;omega)))
    replace B1:=h! ((B1.out.later aq).off ao (fun hk=>H3.out.free _ hk (by simp)))
    replace B2:=h! ((B2.out.later aq).off ao (fun hk=>H3.out.free _ hk (by simp)))
    replace B5:=h! ((B5.out.later aq).off ao (fun hk=>H3.out.free _ hk (by simp)))
    replace H4:=h! ((H4.out.later aq).off ao (fun k h1 h2=>bo.out k h2 h1))
    have bv:Hid (S3 g \/ wg.heap.size < g):=h! (hG.imp_right fun h=>by simp at h;omega)
    have al:Hid (Holds [w.heap.size,w.heap.size+1,b5] (w.heap.size+1+1) w2 (Foot.one g) (fun W=>eU W (Foot.one g) (.slice (some ⟨g,0,none⟩) (m+1) an) (srcJ O p (j+1)))):=h! ⟨by rw [ap.out.1];exact hO,fun _ _ h hk=>h.keep hk,hO.lt,fun k hk=>(by cases hk;rcases bv.out with h | h;exact H3.out.base _ h;have:=cr.out;have:=bO.out;omega),fun k hk=>(by cases hk;rcases bv.out with h | h;exact H3.out.free _ h;have:=cr.out;have:=bO.out;simp;omega)⟩
    have bh:Hid ((Foot.one g).off S4):=h! (fun k h1 h2=>by cases h1;rcases bv.out with h | h;exact bo.out _ h h2;have:=cG.out _ h2;omega)
    clear hO hG ao aq H3 bo
    obtain ⟨ab,af,ae⟩:=B1.out
    obtain ⟨aa,ac,ad⟩:=B2.out
    obtain ⟨ah,ai,aj⟩:=B5.out
    clear ab af ae aa ac ad ah ai aj
    have ag:=(Only.set w2 (b5) 2 (.slice (some ⟨g,0,none⟩) (m+1) an))
    replace B1:=h! (B1.out.only ag (by first | assumption | (simp;done) | omega))
    replace B2:=h! (B2.out.only ag (by first | assumption | (simp;done) | omega))
    replace al:=h! (al.out.other (p:=⟨b5,2,none⟩) (.slice (some ⟨g,0,none⟩) (m+1) an) (by simp))
    replace H4:=h! (H4.out.other (p:=⟨b5,2,none⟩) (.slice (some ⟨g,0,none⟩) (m+1) an) (by simp))
    replace HW:=h! (ag.2.2 HW.out (by first | assumption | omega | (have:=HW.out.size;omega) | (simp;done) | (simp;omega)))
    replace B5:=h! (Box.to (A':=#[.int .i64 p.id,.int .i64 p.typ,(.slice (some ⟨g,0,none⟩) (m+1) an),.slice a4 m c4]) (B5.out.set 2 (.slice (some ⟨g,0,none⟩) (m+1) an)) (by first | rfl | simp))
    clear ag
    generalize (w2.setCell ⟨b5,2,none⟩ (.slice (some ⟨g,0,none⟩) (m+1) an))=w3 at *
    obtain ⟨ab,af,ae⟩:=B1.out
    obtain ⟨aa,ac,ad⟩:=B2.out
    obtain ⟨ah,ai,aj⟩:=B5.out
    obtain ⟨XF,hX⟩ : ∃ XF:Nat -> Foot,(∀ k,XF 8 k ↔ S4 k) /\ ∀ q k,XF q k -> q=8:=⟨fun q=>if q=8 then S4 else Foot.none,fun k=>by simp,fun q k h=>by
     by_cases e:q=8
     ·exact e
     simp only [if_neg e] at h;exact h.elim⟩
    have HX:=h! hX
    have ar:Hid (∀ k,Four.All XF k -> S4 k):=h! (fun k ⟨q,hq⟩=>by have e:=hX.2 q k hq;subst e;exact (hX.1 k).1 hq)
    clear hX
    have cL:Hid (∀ k,S4 k -> k < w3.heap.size):=h! H4.out.lt
    have cc:Hid (g < w3.heap.size/\b5 < w3.heap.size):=h! ⟨al.out.lt g rfl,B5.out.lt⟩
    have xW:∀ q k,XF q k -> k < w3.heap.size:=fun q k h=>cL.out k (ar.out k ⟨q,h⟩)
    have xI:∀ w w' : World,True -> Below w.heap.size w w' -> True:=fun _ _ _ _=>trivial
    have cv:True:=trivial
    have ax:¬ Four.All XF w.heap.size:=fun h=>H4.out.free _ (ar.out _ h) (by simp)
    have bn:¬ Four.All XF (w.heap.size+1):=fun h=>H4.out.free _ (ar.out _ h) (by simp)
    have be:¬ Four.All XF b5:=fun h=>H4.out.free _ (ar.out _ h) (by simp)
    have cg:(Foot.one g).off (Four.All XF):=fun k h1 h2=>bh.out k h1 (ar.out k h2)
    have am:∀ k,k < w3.heap.size -> Four.All XF k -> w.heap.size <= k:=fun k _ h=>by have:=H4.out.base k (ar.out k h);omega
    refine Four.wp_region_grow (XF:=XF) (I:=(fun _=>True)) 10 (fun ν kz=>match kz with | 7=>.made w3.heap.size (fun b=>.slice (some ⟨b,0,none⟩) 1 1) #[.int .i64 y] | 8=>.holds (fun u w' => ∃ (g1 c1:Nat),u = .slice (some ⟨g1,0,none⟩) (m+1) c1/\eU w' (Foot.one g1) u (valJ O p j ++ [y])/\(S4 g1 \/ w3.heap.size <= g1)) | _=>.plain) (by kernel_rfl) (by kernel_rfl) ?_ ?_ xW xI cv ?_ (fun ν => ?_)
    ·(intro ν k;(try dsimp only);split <;> first | exact True.intro | (intro u w1 w2 hu hb;(obtain ⟨g1,c1,e1,h1,h2⟩:=hu;exact ⟨g1,c1,e1,h1.off hb (fun k hk ⟨q,hq,hx⟩=>hq (HX.out.2 q k hx)),h2⟩)))
    ·(intro ν ν' k h;first | rfl | ((try dsimp only);split <;> first | rfl))
    ·(intro ν j B mk A h;(try dsimp only at h);split at h <;> first | (cases h;exact Nat.le_refl _) | cases h)
    simp only [aO,aS,aP,aU]
    iterate 6 (refine Four.Grow.val (v := ?_) rfl rfl (fun wg hbg hdg => ?_) ?_;rotate_left;(focus ((obtain ⟨lg0,cg0,fg0⟩:=B1.out.off hbg.off ax);(obtain ⟨lg1,cg1,fg1⟩:=B2.out.off hbg.off bn);(obtain ⟨lg2,cg2,fg2⟩:=B5.out.off hbg.off be);clear hbg hdg;first | (go_simp;done) | (go_simp;with_reducible rfl)));simp only [Act.put,aA,aD,aE])
    refine Four.Grow.val (v := ?_) rfl rfl (fun wg hbg hdg => ?_) ?_
    rotate_left
    focus ((obtain ⟨lg0,cg0,fg0⟩:=B1.out.off hbg.off ax);(obtain ⟨lg1,cg1,fg1⟩:=B2.out.off hbg.off bn);(obtain ⟨lg2,cg2,fg2⟩:=B5.out.off hbg.off be);(have z4:=((HW.out.trans (hbg.off.below HW.out.size am)).cell (p:=⟨ub,uo+kn,none⟩) bz).trans db.out);clear hbg hdg;first | (go_simp;done) | (go_simp;with_reducible rfl))
    simp only [Act.put,aA,aD,aE]
    refine Four.Grow.made (T := ?_) rfl rfl (fun wg hbg hdg => ?_) ?_
    rotate_left
    focus ((obtain ⟨lg0,cg0,fg0⟩:=B1.out.off hbg.off ax);(obtain ⟨lg1,cg1,fg1⟩:=B2.out.off hbg.off bn);(obtain ⟨lg2,cg2,fg2⟩:=B5.out.off hbg.off be);clear hbg hdg;first | (go_simp;done) | (go_simp;with_reducible rfl))
    simp only [Act.put,Known.val,aA,aD,aE]
    refine Four.Grow.gives rfl (fun wg hbg hdg => ?_) ?_
    focus ((obtain ⟨bx,e7,hbx,cz⟩:=hdg 7 (by kernel_rfl));simp only [e7];exact uJ (xs:=valJ O p j) (n:=m) _ _ rfl rfl rfl dc.out (H4.out.now.off hbg.1 (fun k hk ⟨q,hq,_,hx⟩=>hq (HX.out.2 q k hx))) cz cb.out (by omega) (fun k hk=>(HX.out.1 k).2 hk) (fun g1 c1 w'' h2 h3=>⟨g1,c1,rfl,h2,h3.imp_right (bE hbg.1.size)⟩))
    simp only [Act.put,Known.val,aA,aD,aE]
    refine Four.Grow.val (v := ?_) rfl rfl (fun wg hbg hdg => ?_) ?_
    rotate_left
    focus ((obtain ⟨lg0,cg0,fg0⟩:=B1.out.off hbg.off ax);(obtain ⟨lg1,cg1,fg1⟩:=B2.out.off hbg.off bn);(obtain ⟨lg2,cg2,fg2⟩:=B5.out.off hbg.off be);clear hbg hdg;first | (go_simp;done) | (go_simp;with_reducible rfl))
    simp only [Act.put,aA,aD,aE]
    intro wg hb hf cd
    obtain ⟨aw,bg,bc,bb⟩:=hf 7 (by omega)
    have ay:aw ≠ w.heap.size:=fun e=>by have:=ab;omega
    have nB1BY:w.heap.size ≠ aw:=fun e=>ay e.symm
    have bi:aw ≠ w.heap.size+1:=fun e=>by have:=aa;omega
    have nB2BY:w.heap.size+1 ≠ aw:=fun e=>bi e.symm
    have ba:aw ≠ b5:=fun e=>by have:=ah;omega
    have nB5BY:b5 ≠ aw:=fun e=>ba e.symm
    simp only [bg]
    clear bg
    clear cd
    have gBY:=bE HW.out.size bc
    clear bc
    clear ab af ae aa ac ad ah ai aj
    replace B1:=h! (B1.out.off hb.1 ax)
    replace B2:=h! (B2.out.off hb.1 bn)
    replace B5:=h! (B5.out.off hb.1 be)
    replace al:=h! (al.out.off hb.1 cg)
    replace HW:=h! (HW.out.trans (hb.1.below HW.out.size am))
    have BY:=h! bb
    clear bb
    obtain ⟨ab,af,ae⟩:=B1.out
    obtain ⟨aa,ac,ad⟩:=B2.out
    obtain ⟨ah,ai,aj⟩:=B5.out
    obtain ⟨ck,cj,cn⟩:=BY.out
    simp only [bH,Nat.reduceAdd]
    have h8:∃ (g1 c1:Nat), ν 8 = .slice (some ⟨g1,0,none⟩) (m+1) c1/\eU wg (Foot.one g1) (ν 8) (valJ O p j ++ [y])/\(S4 g1 \/ w3.heap.size <= g1):=hf 8 (by omega)
    obtain ⟨g8,c8,e8,o8,q8⟩:=h8
    simp only [e8]
    rw [e8] at o8
    have bm:Hid (Holds [w.heap.size,w.heap.size+1,b5] (w.heap.size+1+1) wg (Foot.one g8) (fun W=>eU W (Foot.one g8) (.slice (some ⟨g8,0,none⟩) (m+1) c8) (valJ O p (j+1)))):=h! ⟨by rw [ap.out.2,cF.out];exact o8,fun _ _ h hk=>h.keep hk,o8.lt,fun k hk=>(by cases hk;rcases q8 with h | h;exact H4.out.base _ h;have:=cc.out;omega),fun k hk=>(by cases hk;rcases q8 with h | h;exact H4.out.free _ h;have:=cc.out;simp;omega)⟩
    have cf:Hid ((Foot.one g).off (Foot.one g8)):=h! (fun k h1 h2=>by cases h1;cases h2;rcases q8 with h | h;exact bh.out _ rfl h;have:=cc.out;omega)
    have bw:Hid (m+1=(srcJ O p (j+1)).length):=h! (by rw [ap.out.1,aI, <-HM.out];rfl)
    clear e8 o8 q8 hf hb H4
    go_wp2
    clear ab af ae aa ac ad ah ai aj ck cj cn
    have ag:=(Only.set wg (b5) 3 (.slice (some ⟨g8,0,none⟩) (m+1) c8))
    replace B1:=h! (B1.out.only ag (by first | assumption | (simp;done) | omega))
    replace B2:=h! (B2.out.only ag (by first | assumption | (simp;done) | omega))
    replace BY:=h! (BY.out.only ag (by first | assumption | (simp;done) | omega))
    replace al:=h! (al.out.other (p:=⟨b5,3,none⟩) (.slice (some ⟨g8,0,none⟩) (m+1) c8) (by simp))
    replace bm:=h! (bm.out.other (p:=⟨b5,3,none⟩) (.slice (some ⟨g8,0,none⟩) (m+1) c8) (by simp))
    replace HW:=h! (ag.2.2 HW.out (by first | assumption | omega | (have:=HW.out.size;omega) | (simp;done) | (simp;omega)))
    replace B5:=h! (Box.to (A':=#[.int .i64 p.id,.int .i64 p.typ,(.slice (some ⟨g,0,none⟩) (m+1) an),(.slice (some ⟨g8,0,none⟩) (m+1) c8)]) (B5.out.set 3 (.slice (some ⟨g8,0,none⟩) (m+1) c8)) (by first | rfl | simp))
    clear ag
    generalize (wg.setCell ⟨b5,3,none⟩ (.slice (some ⟨g8,0,none⟩) (m+1) c8))=w5 at *
    obtain ⟨ab,af,ae⟩:=B1.out
    obtain ⟨aa,ac,ad⟩:=B2.out
    obtain ⟨ah,ai,aj⟩:=B5.out
    obtain ⟨ck,cj,cn⟩:=BY.out
    go_roundw
    case rel=>exact ⟨j+1,m+1,_,_,_,_,_,_,hlt,by go_num,bw.out,HW.out,B1.out,B2.out,B5.out,al.out,bm.out,cf.out⟩
    simp [intOf];omega
   have ce:t = -1:=by rw [bd.out.2,qY hmem]
   subst ce
   have ap:=h! (aDY (O:=O) (p:=p) (j:=j) (by rw [<-bd.out.1];exact hmem))
   have bw:Hid (m=(srcJ O p (j+1)).length):=h! (by rw [ap.out.1];exact HM.out)
   have al:Hid (Holds [w.heap.size,w.heap.size+1,b5] (w.heap.size+1+1) wg S3 (fun W=>eU W S3 (.slice a3 m c3) (srcJ O p (j+1)))):=h! (by rw [ap.out.1];exact H3.out)
   have bm:Hid (Holds [w.heap.size,w.heap.size+1,b5] (w.heap.size+1+1) wg S4 (fun W=>eU W S4 (.slice a4 m c4) (valJ O p (j+1)))):=h! (by rw [ap.out.2];exact H4.out)
   clear hmem
   go_wp2
   go_roundw
   case rel=>exact ⟨j+1,m,_,_,_,_,_,_,hlt,by go_num,bw.out,HW.out,B1.out,B2.out,B5.out,al.out,bm.out,bo.out⟩
   simp [intOf];omega
  obtain rfl:n=j:=by omega
  go_wp2
  clear ab af ae aa ac ad ah ai aj
  have ag:=((((Only.set w6 (w.heap.size+1) 0 (.int .i64 p.id)).put 1 (.int .i64 p.typ)).put 2 (.slice a3 m c3)).put 3 (.slice a4 m c4))
  replace B1:=h! (B1.out.only ag (by first | assumption | (simp;done) | omega))
  replace B5:=h! (B5.out.only ag (by first | assumption | (simp;done) | omega))
  replace H3:=h! ((((H3.out.other (p:=⟨w.heap.size+1,0,none⟩) (.int .i64 p.id) (by simp)).other (p:=⟨w.heap.size+1,1,none⟩) (.int .i64 p.typ) (by simp)).other (p:=⟨w.heap.size+1,2,none⟩) (.slice a3 m c3) (by simp)).other (p:=⟨w.heap.size+1,3,none⟩) (.slice a4 m c4) (by simp))
  replace H4:=h! ((((H4.out.other (p:=⟨w.heap.size+1,0,none⟩) (.int .i64 p.id) (by simp)).other (p:=⟨w.heap.size+1,1,none⟩) (.int .i64 p.typ) (by simp)).other (p:=⟨w.heap.size+1,2,none⟩) (.slice a3 m c3) (by simp)).other (p:=⟨w.heap.size+1,3,none⟩) (.slice a4 m c4) (by simp))
  replace HW:=h! (ag.2.2 HW.out (by first | assumption | omega | (have:=HW.out.size;omega) | (simp;done) | (simp;omega)))
  replace B2:=h! (Box.to (A':=#[(.int .i64 p.id),(.int .i64 p.typ),(.slice a3 m c3),(.slice a4 m c4)]) ((((B2.out.set 0 (.int .i64 p.id)).set 1 (.int .i64 p.typ)).set 2 (.slice a3 m c3)).set 3 (.slice a4 m c4)) (by first | rfl | simp))
  clear ag
  generalize ((((w6.setCell ⟨w.heap.size+1,0,none⟩ (.int .i64 p.id)).setCell ⟨w.heap.size+1,1,none⟩ (.int .i64 p.typ)).setCell ⟨w.heap.size+1,2,none⟩ (.slice a3 m c3)).setCell ⟨w.heap.size+1,3,none⟩ (.slice a4 m c4))=wz at *
  obtain ⟨ab,af,ae⟩:=B1.out
  obtain ⟨aa,ac,ad⟩:=B2.out
  obtain ⟨ah,ai,aj⟩:=B5.out
  refine bodyPost_ret (v:=.agg #[.int .i64 p.id,.int .i64 p.typ,.slice a3 m c3,.slice a4 m c4]) (by simp [results,Tryz.results42,go_sem, *]) rfl ⟨.slice a3 m c3,.slice a4 m c4,fun k=>S3 k \/ S4 k,rfl, ?_,fun k hk=>by have:=hk.elim (H3.out.base k) (H4.out.base k);omega,HW.out⟩
  rw [wV, <-HN.out.1]
  exact ⟨⟨_,_,S3,S4,rfl,H3.out.now,H4.out.now,bo.out,fun _ h=>.inl h,fun _ h=>.inr h⟩,fun k hk=>hk.elim (H3.out.lt k) (H4.out.lt k),cl.out.1,cl.out.2⟩
end
end Go.Proofs.YtagabiidbbhhmaaGreat
