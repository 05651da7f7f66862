/- Part 44. -/
import Derived.Test.YtagabiidbbhhmaaGreatEB33
import Derived.Test.YtagabiidbbhhmaaGreatEB43
namespace Go.Proofs.YtagabiidbbhhmaaGreat
set_option linter.all false
open Go.RowKit
theorem aDE {x y:FuncD} (h1:x.params=y.params) (h2:x.arrays=y.arrays) (h3:x.cells=y.cells) (h4:x.blocks=y.blocks):x=y:=by
 obtain ⟨a,b,c,d⟩:=x
 obtain ⟨a',b',c',d'⟩:=y
 simp only at h1 h2 h3 h4
 subst h1 h2 h3 h4
 rfl
set_option maxHeartbeats 25600000 in
set_option maxRecDepth 100000 in
theorem yM {w:World} {v u:Value} {x y:FuncD} (hv:fJ w v x) (hu:fJ w u y) :
  Calls Tryz.prog 14 #[v,u] w fun e w'=>e = .returned (.bool (decide (x=y)))/\Below w.heap.size w w':=by
 obtain ⟨ap,cp,ab,cb,rfl,hp, -, -,hB⟩:=hv.form
 obtain ⟨ap2,cp2,ab2,cb2,rfl,hp2, -, -,hB2⟩:=hu.form
 obtain ⟨a',c',bb,bo,hbe,hbc,hbm, -,hba,hbx⟩:=eU hB
 cases hbe
 obtain ⟨a',c',bb2,bo2,hbe,hbc2,hbm2, -,hba2,hbx2⟩:=eU hB2
 cases hbe
 obtain ⟨np,hnp⟩ : ∃ n,n=x.params.length:=⟨_,rfl⟩
 obtain ⟨nb,hnb⟩ : ∃ n,n=x.blocks.length:=⟨_,rfl⟩
 obtain ⟨ar,har⟩ : ∃ n,n=x.arrays:=⟨_,rfl⟩
 obtain ⟨ce,hce⟩ : ∃ n,n=x.cells:=⟨_,rfl⟩
 obtain ⟨np2,hnp2⟩ : ∃ n,n=y.params.length:=⟨_,rfl⟩
 obtain ⟨nb2,hnb2⟩ : ∃ n,n=y.blocks.length:=⟨_,rfl⟩
 obtain ⟨ar2,har2⟩ : ∃ n,n=y.arrays:=⟨_,rfl⟩
 obtain ⟨ce2,hce2⟩ : ∃ n,n=y.cells:=⟨_,rfl⟩
 obtain ⟨q,hq⟩ : ∃ q,q=decide (x=y):=⟨_,rfl⟩
 rw [<-hq, <-hnp, <-hnb, <-har, <-hce, <-hnp2, <-hnb2, <-har2, <-hce2]
 rw [<-hnb] at hbc hba
 rw [<-hnb2] at hbc2 hba2
 rw [<-hnp] at hp
 rw [<-hnp2] at hp2
 have HQ:=h! hq
 have HNB:=h! hnb
 have HNB2:=h! hnb2
 have HAR:=h! (And.intro har har2)
 have HCE:=h! (And.intro hce hce2)
 have HP:=h! hp
 have HP2:=h! hp2
 have HBA:=h! hba
 have HBX:=h! hbx
 have HBA2:=h! hba2
 have HBX2:=h! hbx2
 clear hp hp2 hB hB2 hq hnp hnb har hce hnp2 hnb2 har2 hce2 hba hbx hba2 hbx2 hv hu
 go_enter Tryz.func14,Tryz.ntmps14
 go_upto_region 1 with (fail)
 have hA_:=(Below.refl w.heap.size w).alloc (aA _) (.cells #[.slice ap np cp,.int .i64 ar,.int .i64 ce,.slice ab nb cb] 25)
 have HW:=h! hA_
 clear hA_
 have B1:=h! (Box.new w #[.slice ap np cp,.int .i64 ar,.int .i64 ce,.slice ab nb cb] 25)
 have hz0_:(w.alloc (.cells #[.slice ap np cp,.int .i64 ar,.int .i64 ce,.slice ab nb cb] 25)).heap.size=w.heap.size+1:=World.size_alloc _ _
 generalize w.alloc (.cells #[.slice ap np cp,.int .i64 ar,.int .i64 ce,.slice ab nb cb] 25)=wv0 at *
 have hA_:=(Below.refl wv0.heap.size wv0).alloc (aA _) (.cells #[.slice ap2 np2 cp2,.int .i64 ar2,.int .i64 ce2,.slice ab2 nb2 cb2] 25)
 replace B1:=h! (B1.out.later hA_)
 replace HW:=h! (HW.out.trans (hA_.mono HW.out.size))
 clear hA_
 have B2:=h! (Box.new wv0 #[.slice ap2 np2 cp2,.int .i64 ar2,.int .i64 ce2,.slice ab2 nb2 cb2] 25)
 rw [hz0_] at B2
 clear hz0_
 generalize wv0.alloc (.cells #[.slice ap2 np2 cp2,.int .i64 ar2,.int .i64 ce2,.slice ab2 nb2 cb2] 25)=wv at *
 obtain ⟨lB1,cB1,fB1⟩:=B1.out
 obtain ⟨lB2,cB2,fB2⟩:=B2.out
 cases h1:(ar != ar2)
 rotate_left
 ·skip
  have hqf:q=false:=by rw [HQ.out];exact decide_eq_false (fun e=>(by have h9:ar ≠ ar2:=(by simpa using h1);exact h9 (by rw [HAR.out.1,HAR.out.2,e])))
  subst hqf
  go_wp2
  go_ret
  exact ⟨rfl,HW.out⟩
 cases h2:(ce != ce2)
 rotate_left
 ·skip
  have hqf:q=false:=by rw [HQ.out];exact decide_eq_false (fun e=>(by have h9:ce ≠ ce2:=(by simpa using h2);exact h9 (by rw [HCE.out.1,HCE.out.2,e])))
  subst hqf
  go_wp2
  go_ret
  exact ⟨rfl,HW.out⟩
 go_wp2_with fail
 refine (yI (HP.out.below HW.out) (HP2.out.below HW.out)).mono ?_
 rintro e w2 ⟨rfl,hb⟩
 obtain ⟨c,hc⟩ : ∃ c,c=decide (x.params=y.params):=⟨_,rfl⟩
 rw [<-hc]
 have HC:=h! hc
 clear hc
 clear lB1 cB1 fB1 lB2 cB2 fB2
 replace B1:=h! (B1.out.later hb)
 replace B2:=h! (B2.out.later hb)
 replace HW:=h! (HW.out.trans (hb.mono HW.out.size))
 clear hb
 obtain ⟨lB1,cB1,fB1⟩:=B1.out
 obtain ⟨lB2,cB2,fB2⟩:=B2.out
 cases c
 ·skip
  have hqf:q=false:=by rw [HQ.out];exact decide_eq_false (fun e=>(by have h9:=HC.out;simp [e] at h9))
  subst hqf
  go_wp2
  go_ret
  exact ⟨rfl,HW.out⟩
 cases h3:((nb:Int) != (nb2:Int))
 rotate_left
 ·skip
  have hqf:q=false:=by rw [HQ.out];exact decide_eq_false (fun e=>(by have h9:nb ≠ nb2:=(by simp at h3;omega);exact h9 (by rw [HNB.out,HNB2.out,e])))
  subst hqf
  go_wp2
  go_ret
  exact ⟨rfl,HW.out⟩
 have HEQ:Hid (x.params=y.params/\x.arrays=y.arrays/\x.cells=y.cells):=h! ⟨by simpa using HC.out.symm,by rw [<-HAR.out.1, <-HAR.out.2];simpa using h1,by rw [<-HCE.out.1, <-HCE.out.2];simpa using h2⟩
 obtain rfl:nb=nb2:=by simp at h3;omega
 clear HC HAR HCE HP HP2
 go_wp2_with fail
 clear h1 h2 h3
 go_loopw [5] (fun i wr => ∃ k:Nat,k <= nb/\i = .int .i64 k/\Below w.heap.size w wr/\Box wr w.heap.size #[.slice ap np cp,.int .i64 ar,.int .i64 ce,.slice ab nb cb]/\Box wr (w.heap.size+1) #[.slice ap2 np2 cp2,.int .i64 ar2,.int .i64 ce2,.slice ab2 nb cb2] /\ ∀ j,j < k -> x.blocks[j]? = y.blocks[j]?) (fun i _=>nb - (intOf i).toNat)
 case atStart=>exact ⟨0,aJ _,rfl,HW.out,B1.out,B2.out,fun j h=>absurd h (eO _)⟩
 case round =>
  obtain ⟨k,hk,rfl,hW,hb1,hb2,hs⟩:=hrel
  clear lB1 cB1 fB1 lB2 cB2 fB2
  replace HW:=h! hW
  replace B1:=h! hb1
  replace B2:=h! hb2
  have HS:=h! hs
  clear hW hb1 hb2 hs
  obtain ⟨lB1,cB1,fB1⟩:=B1.out
  obtain ⟨lB2,cB2,fB2⟩:=B2.out
  by_cases hlt:k < nb
  ·obtain ⟨rfl,hbp⟩:=HBA.out (by omega)
   obtain ⟨rfl,hbp2⟩:=HBA2.out (by omega)
   obtain ⟨p,hpk⟩ : ∃ p,x.blocks[k]? = some p:=⟨_,aC (by have:=HNB.out;omega)⟩
   obtain ⟨r,hrk⟩ : ∃ r,y.blocks[k]? = some r:=⟨_,aC (by have:=HNB2.out;omega)⟩
   obtain ⟨p1,p2,p3,q1,q2,q3,hP⟩:=HBX.out k p hpk
   obtain ⟨r1,r2,r3,s1,s2,s3,hR⟩:=HBX2.out k r hrk
   have HPK:=h! hpk
   have HRK:=h! hrk
   have HPP:=h! hP
   have HRR:=h! hR
   obtain ⟨c,hc⟩ : ∃ c,c=decide (p=r):=⟨_,rfl⟩
   have HC:=h! hc
   have HCT:Hid (∀ w4,Below wr.heap.size wr w4 -> Calls Tryz.prog 45 #[.agg #[.slice p1 p.phis.length q1,.slice p2 p.code.length q2,.int .i64 p.term.op,.int .i64 p.term.val,.slice p3 p.term.to.length q3,.int .i64 p.term.n],.agg #[.slice r1 r.phis.length s1,.slice r2 r.code.length s2,.int .i64 r.term.op,.int .i64 r.term.val,.slice r3 r.term.to.length s3,.int .i64 r.term.n]] w4 fun e w'=>e = .returned (.bool c)/\Below w4.heap.size w4 w'):=h! (fun w4 hb=>by
    rw [hc]
    exact rX ((HPP.out.blockV.below HW.out).below hb) ((HRR.out.blockV.below HW.out).below hb))
   have HNE:Hid (p ≠ r -> q=false):=h! (fun h=>by rw [HQ.out];exact decide_eq_false (fun e=>h (by have h9:=HPK.out;rw [e,HRK.out] at h9;cases h9;rfl)))
   clear hpk hrk hP hR hc
   go_upto_region 6 with (fail)
   refine wp_region_grow 12 (fun kz=>match kz with | 10=>.const (.bool c) | _=>.plain) (by kernel_rfl) (by kernel_rfl) ?_ (fun ν => ?_)
   ·(intro k;(try dsimp only);split <;> first | exact True.intro | (intro u w1 w2 hu hb;exact hu.below hb))
   simp only [aQ,aU,aT,aY]
   iterate 4 (refine Grow.val (v := ?_) rfl rfl (fun wg hbg hdg => ?_) ?_;rotate_left;(focus ((obtain ⟨lg0,cg0,fg0⟩:=B1.out.later hbg);(obtain ⟨lg1,cg1,fg1⟩:=B2.out.later hbg);clear hbg hdg;first | (go_simp;done) | (go_simp;with_reducible rfl)));simp only [Act.put,aB,aE,aF])
   refine Grow.val (v := ?_) rfl rfl (fun wg hbg hdg => ?_) ?_
   rotate_left
   focus ((obtain ⟨lg0,cg0,fg0⟩:=B1.out.later hbg);(obtain ⟨lg1,cg1,fg1⟩:=B2.out.later hbg);(obtain ⟨m0,m1,m2,m3,m4,m5, -, -, -, -, -, -⟩:=HPP.out.below (HW.out.trans (hbg.mono HW.out.size)) hbp);clear hbg hdg;first | (go_simp;done) | (go_simp;with_reducible rfl))
   simp only [Act.put,aB,aE,aF]
   iterate 4 (refine Grow.val (v := ?_) rfl rfl (fun wg hbg hdg => ?_) ?_;rotate_left;(focus ((obtain ⟨lg0,cg0,fg0⟩:=B1.out.later hbg);(obtain ⟨lg1,cg1,fg1⟩:=B2.out.later hbg);clear hbg hdg;first | (go_simp;done) | (go_simp;with_reducible rfl)));simp only [Act.put,aB,aE,aF])
   refine Grow.val (v := ?_) rfl rfl (fun wg hbg hdg => ?_) ?_
   rotate_left
   focus ((obtain ⟨lg0,cg0,fg0⟩:=B1.out.later hbg);(obtain ⟨lg1,cg1,fg1⟩:=B2.out.later hbg);(obtain ⟨m0,m1,m2,m3,m4,m5, -, -, -, -, -, -⟩:=HRR.out.below (HW.out.trans (hbg.mono HW.out.size)) hbp2);clear hbg hdg;first | (go_simp;done) | (go_simp;with_reducible rfl))
   simp only [Act.put,aB,aE,aF]
   refine Grow.call (f := ?_) (args := ?_) rfl (fun wg => ?_) (fun wg hbg hdg => ?_) ?_
   rotate_left 2
   focus (first | (go_simp;done) | (go_simp;refine And.intro ?_ ?_ <;> with_reducible rfl) | (go_simp;with_reducible rfl))
   focus exact Calls.mono (HCT.out wg hbg) (fun e w2 ⟨he,hb2⟩=>⟨_,he,rfl,hb2⟩)
   simp only [Act.put,Known.val,aB,aE,aF]
   refine Grow.val (v := ?_) rfl rfl (fun wg hbg hdg => ?_) ?_
   rotate_left
   focus ((obtain ⟨lg0,cg0,fg0⟩:=B1.out.later hbg);(obtain ⟨lg1,cg1,fg1⟩:=B2.out.later hbg);clear hbg hdg;first | (go_simp;done) | (go_simp;with_reducible rfl))
   simp only [Act.put,aB,aE,aF]
   intro wg hb hf hap
   clear hap
   clear lB1 cB1 fB1 lB2 cB2 fB2
   replace B1:=h! (B1.out.later hb)
   replace B2:=h! (B2.out.later hb)
   replace HW:=h! (HW.out.trans (hb.mono HW.out.size))
   clear hb
   obtain ⟨lB1,cB1,fB1⟩:=B1.out
   obtain ⟨lB2,cB2,fB2⟩:=B2.out
   clear hf
   cases c
   ·have hqf:q=false:=HNE.out (by have:=HC.out;simpa using this)
    subst hqf
    go_wp2
    go_ret
    exact ⟨rfl,HW.out⟩
   have HPR:Hid (p=r):=h! (by have:=HC.out;simpa using this)
   go_wp2
   go_roundw
   case rel =>
    refine ⟨k+1,hlt,by go_num,HW.out,B1.out,B2.out,fun j hj => ?_⟩
    by_cases e:j=k
    ·subst e;rw [HPK.out,HRK.out,HPR.out]
    exact HS.out j (by omega)
   simp [intOf];omega
  have hqt:q=true:=by rw [HQ.out];exact decide_eq_true (aDE HEQ.out.1 HEQ.out.2.1 HEQ.out.2.2 (oT HNB.out HNB2.out (fun j hj=>HS.out j (by omega))))
  subst hqt
  go_wp2
  go_ret
  exact ⟨rfl,HW.out⟩
theorem fJ.later {W W' : World} {v:Value} {f:FuncD} (h:fJ W v f) (hb:Below W.heap.size W W'):fJ W' v f:=h.below hb
theorem fJ.alloc {W:World} {v:Value} {f:FuncD} (h:fJ W v f) (o:Obj):fJ (W.alloc o) v f:=h.below ((Below.refl _ _).alloc (aA _) o)
theorem vR {f:FuncD} {b:Int} (h:fZ f b 0):fZ f 0 0:=by
 have h0:=h
 unfold fZ at h
 rcases h with ⟨c, -, -, -, -,h⟩ | ⟨h1,⟨c,x, -, -, -, -,h⟩ | ⟨h2,⟨i,u, -, -, -, -,h⟩ | ⟨h3,rfl, -⟩⟩⟩
 ·cases h
 ·cases h
 ·cases h
 exact h0
def lR (a b v:Int):Int:=if v=a then b else v
def mapP (g:Int -> Int) (p:PhiD):PhiD := { p with vals:=p.vals.map g }
def mapX (g:Int -> Int) (x:InstrD):InstrD := { x with args:=x.args.map g }
def mapT (g:Int -> Int) (t:TermD):TermD:=if t.op=2 \/ t.op=3 then { t with val:=g t.val } else t
def mapB (g:Int -> Int) (x:BlockD):BlockD:=⟨x.phis.map (mapP g),x.code.map (mapX g),mapT g x.term⟩
def mapF (g:Int -> Int) (f:FuncD):FuncD := { f with blocks:=f.blocks.map (mapB g) }
def SErr (f:FuncD) (k:Int):Prop:=(eS f ≠ 0/\k=eS f) \/ (eS f=0 /\ ∃ b,fZ f b k)
theorem SErr.one {f:FuncD} {k k' : Int} (h:SErr f k) (h' : SErr f k'):k=k':=by
 rcases h with ⟨h1,rfl⟩ | ⟨h1,b,h2⟩
 ·rcases h' with ⟨_,rfl⟩ | ⟨h3,_⟩
  ·rfl
  exact absurd h3 h1
 rcases h' with ⟨h3,_⟩ | ⟨_,b',h4⟩
 ·exact absurd h1 h3
 exact (yX h2 h4).2
theorem SErr.of_check {f:FuncD} {b k:Int} (h1:eS f ≠ 0 -> b=0/\k=eS f) (h2:eS f=0 -> fZ f b k):SErr f k:=by
 by_cases h:eS f=0
 ·exact .inr ⟨h,b,h2 h⟩
 exact .inl ⟨h,(h1 h).2⟩
theorem SErr.zero {f:FuncD} (h:SErr f 0):eS f=0/\fZ f 0 0:=by
 rcases h with ⟨h1,h2⟩ | ⟨h1,b,h2⟩
 ·exact absurd h2.symm h1
 exact ⟨h1,vR h2⟩
def vS (f:FuncD) (a b:Int):FuncD × Int :=
 if (tyOf (eQ f) a).isSome=false \/ (tyOf (eQ f) b).isSome=false then (kS,9) else if tyOf (eQ f) a ≠ tyOf (eQ f) b then (kS,3) else (mapF (lR a b) f,0)
def oC (f:FuncD) (a b:Int) (g:FuncD) (k:Int):Prop := ∃ s,SErr f s/\((s ≠ 0/\g=kS/\k=s) \/ (s=0/\(g,k)=vS f a b))
theorem oC.one {f g g' : FuncD} {a b k k' : Int} (h:oC f a b g k) (h' : oC f a b g' k'):g=g' /\ k=k':=by
 obtain ⟨s,h1,h2⟩:=h
 obtain ⟨s',h3,h4⟩:=h'
 obtain rfl:=h1.one h3
 rcases h2 with ⟨n,rfl,rfl⟩ | ⟨rfl,h2⟩
 ·rcases h4 with ⟨_,rfl,rfl⟩ | ⟨n2,_⟩
  ·exact ⟨rfl,rfl⟩
  exact absurd n2 n
 rcases h4 with ⟨n2,_⟩ | ⟨_,h4⟩
 ·exact absurd rfl n2
 rw [<-h4] at h2
 exact ⟨congrArg Prod.fst h2,congrArg Prod.snd h2⟩
def gJ {α : Type} (g : α -> α) (xs:List α) (i:Nat):List α := (xs.take i).map g ++ xs.drop i
theorem oD {α : Type} (g : α -> α) (xs:List α) (i q:Nat):(gJ g xs i)[q]? = if q < i then (xs[q]?).map g else xs[q]?:=by
 unfold gJ
 rw [cV]
 simp only [bE,aR]
 by_cases h:q < i
 ·rw [if_pos h]
  by_cases h2:q < xs.length
  ·rw [if_pos (by omega),aM,aW,if_pos h]
  rw [if_neg (by omega),bS,aS (by omega),aS (by omega)];rfl
 rw [if_neg h,if_neg (by omega),bS]
 by_cases h2:i <= xs.length
 ·rw [show i+(q - min i xs.length)=q by omega]
 rw [aS (by omega),aS (by omega)]
theorem gN {α : Type} (g : α -> α) (xs:List α):gJ g xs 0=xs:=by simp [gJ]
theorem eY {α : Type} (g : α -> α) (xs:List α) (i:Nat):(gJ g xs i).length=xs.length:=by unfold gJ;rw [aI,bE,aR,dC];omega
theorem iA {α : Type} (g : α -> α) (xs:List α):gJ g xs xs.length=xs.map g:=by unfold gJ;rw [cO,List.drop_length,bR]
theorem gZ {α : Type} (g : α -> α) (xs:List α) (i:Nat):(gJ g xs i)[i]? = xs[i]?:=by rw [oD,if_neg (Nat.lt_irrefl _)]
theorem gU {α : Type} {g : α -> α} {xs:List α} {i:Nat} {x : α} (h:xs[i]? = some x):(gJ g xs i).set i (g x)=gJ g xs (i+1):=by
 apply bH
 intro q
 rw [cC,eY,oD,oD]
 have hl:=(aD.1 h).1
 by_cases e:i=q
 ·subst e
  rw [if_pos rfl,if_pos hl,if_pos (by omega),h];rfl
 rw [if_neg e]
 by_cases h2:q < i
 ·rw [if_pos h2,if_pos (by omega)]
 rw [if_neg h2,if_neg (by omega)]
theorem gI.vals {W:World} {S:Foot} {v:Value} {ps:List PhiD} (h:gI W S v ps) {j:Nat} {p:PhiD} (hj:ps[j]? = some p) :
  ∃ (g cap:Nat) (af av:Option Addr) (cf cv:Nat) (Sv:Foot),v = .slice (some ⟨g,0,none⟩) ps.length cap/\g < W.heap.size/\S g/\PhiC W g (j * 4) p af av cf cv/\(∀ o,W.frozen? ⟨g,o,none⟩=false) /\
   eV W Sv (.slice av p.vals.length cv) p.vals/\(∀ k,Sv k -> S k) /\ ¬ Sv g /\
   (∀ (W' : World) (vals:List Int),Off Sv W W' -> eV W' Sv (.slice av p.vals.length cv) vals -> gI W' S v (ps.set j { p with vals:=vals })):=by
 obtain ⟨cs,G,F,hp⟩:=h
 have hjl:=(aD.1 hj).1
 obtain ⟨g,cap,hv,hG, -, -,hgl,hcell,hfr⟩:=hp.row.addr (by omega)
 obtain ⟨⟨a,b,Sf,Sv,hch,h1,h2,h12,i1,i2⟩,hFl,q1,q2⟩:=hp.el j p hj
 obtain ⟨af,cf,rfl⟩:=h1.ints.form
 obtain ⟨av,cv,rfl⟩:=h2.ints.form
 have hc:∀ o u,o < 4 -> (iO cs 4 j)[o]? = some u -> W.cell? ⟨g,j * 4+o,none⟩=some u:=fun o u ho hu=>hcell _ _ (by rw [<-jI ho];exact hu)
 rw [hch] at hc
 have nG:∀ k,F j k -> ¬ G k:=hp.free j hjl
 have inS:∀ k,F j k -> S k:=fun k hk=>hp.inF j k hjl hk
 refine ⟨g,cap,af,av,cf,cv,Sv,hv,hgl,hp.inG g hG,⟨hc 0 _ (by omega) rfl,hc 1 _ (by omega) rfl,hc 2 _ (by omega) rfl,hc 3 _ (by omega) rfl,h1.ints,h2.ints,q1,q2⟩,hfr,h2,fun k hk=>inS k (i2 k hk),fun hk=>nG g (i2 g hk) hG,fun W' vals ho ha => ?_⟩
 have ho2:Off (G.or (F j)) W W':=ho.mono fun k _ hk=>.inr (i2 k hk)
 have hlt:∀ k,S k -> k < W'.heap.size:=fun k hk=>bA (hp.lt k hk) ho.size
 refine ⟨cs,G,_,hp.put OPhi.nice hj { p with vals:=vals } (Fj:=F j) ho2 (hp.row.off ho fun k h1 h2=>nG k (i2 k h2) h1) (fun _ _ _=>rfl) ?_ (fun k hk=>.inl hk) S (fun k hk=>hk) (fun k hk=>inS k hk) hlt⟩
 rw [hch]
 exact ⟨⟨_,_,Sf,Sv,rfl,h1.off ho h12,ha,h12,i1,i2⟩,fun k hk=>hlt k (inS k hk),q1,q2⟩
theorem iN.open {W:World} {S:Foot} {v:Value} {ys:List InstrD} (h:iN W S v ys) {j:Nat} {y:InstrD} (hj:ys[j]? = some y) :
  ∃ (g cap:Nat) (aa:Option Addr) (ca:Nat) (Sa:Foot),v = .slice (some ⟨g,0,none⟩) ys.length cap/\g < W.heap.size/\S g/\InstrC W g (j * 4) y aa ca/\(∀ o,W.frozen? ⟨g,o,none⟩=false) /\
   eV W Sa (.slice aa y.args.length ca) y.args/\(∀ k,Sa k -> S k) /\ ¬ Sa g /\
   (∀ (W' : World) (args:List Int),Off Sa W W' -> eV W' Sa (.slice aa y.args.length ca) args -> iN W' S v (ys.set j { y with args:=args })):=by
 obtain ⟨cs,G,F,hp⟩:=h
 have hjl:=(aD.1 hj).1
 obtain ⟨g,cap,hv,hG, -, -,hgl,hcell,hfr⟩:=hp.row.addr (by omega)
 obtain ⟨⟨a,hch,h1⟩,q1,q2,q3⟩:=hp.el j y hj
 obtain ⟨aa,ca,rfl⟩:=h1.ints.form
 have hc:∀ o u,o < 4 -> (iO cs 4 j)[o]? = some u -> W.cell? ⟨g,j * 4+o,none⟩=some u:=fun o u ho hu=>hcell _ _ (by rw [<-jI ho];exact hu)
 rw [hch] at hc
 have nG:∀ k,F j k -> ¬ G k:=hp.free j hjl
 have inS:∀ k,F j k -> S k:=fun k hk=>hp.inF j k hjl hk
 refine ⟨g,cap,aa,ca,F j,hv,hgl,hp.inG g hG,⟨hc 0 _ (by omega) rfl,hc 1 _ (by omega) rfl,hc 2 _ (by omega) rfl,hc 3 _ (by omega) rfl,h1.ints,q1,q2,q3⟩,hfr,h1,inS,fun hk=>nG g hk hG,fun W' args ho ha => ?_⟩
 have ho2:Off (G.or (F j)) W W':=ho.mono fun k _ hk=>.inr hk
 have hlt:∀ k,S k -> k < W'.heap.size:=fun k hk=>bA (hp.lt k hk) ho.size
 refine ⟨cs,G,_,hp.put OInstr.nice hj { y with args:=args } (Fj:=F j) ho2 (hp.row.off ho fun k h1 h2=>nG k h2 h1) (fun _ _ _=>rfl) ?_ (fun k hk=>.inl hk) S (fun k hk=>hk) inS hlt⟩
 rw [hch]
 exact ⟨⟨_,rfl,ha⟩,q1,q2,q3⟩
theorem eX.opened {W:World} {S:Foot} {v:Value} {xs:List BlockD} (h:eX W S v xs) {j:Nat} {x:BlockD} (hj:xs[j]? = some x) :
  ∃ (g cap:Nat) (ap ai at_:Option Addr) (cp ci ct:Nat) (S1 S2:Foot),v = .slice (some ⟨g,0,none⟩) xs.length cap/\g < W.heap.size/\S g/\BlockC W g (j * 6) x ap ai at_ cp ci ct/\(∀ o,W.frozen? ⟨g,o,none⟩=false) /\
   gI W S1 (.slice ap x.phis.length cp) x.phis/\iN W S2 (.slice ai x.code.length ci) x.code/\(∀ k,S1 k -> S k)/\(∀ k,S2 k -> S k)/\S1.off S2 /\ ¬ S1 g /\ ¬ S2 g /\
   (∀ (W' : World) (ps:List PhiD) (ys:List InstrD),Off (S1.or S2) W W' -> gI W' S1 (.slice ap x.phis.length cp) ps -> iN W' S2 (.slice ai x.code.length ci) ys -> eX W' S v (xs.set j { x with phis:=ps,code:=ys })):=by
 obtain ⟨cs,G,F,hp⟩:=h
 have hjl:=(aD.1 hj).1
 obtain ⟨g,cap,hv,hG, -, -,hgl,hcell,hfr⟩:=hp.row.addr (by omega)
 obtain ⟨⟨pv,uv,t,S1,S2,S3,hch,h1,h2,h3,h12,h13,h23,i1,i2,i3⟩,hFl⟩:=hp.el j x hj
 obtain ⟨⟨tv,rfl,hto⟩,q1,q2,q3⟩:=h3
 obtain ⟨ap,cp,rfl⟩:=(h1.reads (R0:=PhiR) fun _ _ _ h=>h.reads).form
 obtain ⟨ai,ci,rfl⟩:=(h2.reads (R0:=gY) fun _ _ _ h=>h.reads).form
 obtain ⟨at_,ct,rfl⟩:=hto.ints.form
 have hc:∀ o u,o < 6 -> (iO cs 6 j)[o]? = some u -> W.cell? ⟨g,j * 6+o,none⟩=some u:=fun o u ho hu=>hcell _ _ (by rw [<-jI ho];exact hu)
 rw [hch] at hc
 have nG:∀ k,F j k -> ¬ G k:=hp.free j hjl
 have inS:∀ k,F j k -> S k:=fun k hk=>hp.inF j k hjl hk
 refine ⟨g,cap,ap,ai,at_,cp,ci,ct,S1,S2,hv,hgl,hp.inG g hG,⟨hc 0 _ (by omega) rfl,hc 1 _ (by omega) rfl,hc 2 _ (by omega) rfl,hc 3 _ (by omega) rfl,hc 4 _ (by omega) rfl,hc 5 _ (by omega) rfl,h1.reads fun _ _ _ h=>h.reads,h2.reads fun _ _ _ h=>h.reads,hto.ints,q1,q2,q3⟩,hfr,h1,h2,
  fun k hk=>inS k (i1 k hk),fun k hk=>inS k (i2 k hk),h12,fun h=>nG g (i1 g h) hG,fun h=>nG g (i2 g h) hG,fun W' ps ys ho hps hys => ?_⟩
 have ho2:Off (G.or (F j)) W W':=ho.mono fun k _ hk=>.inr (hk.elim (i1 k) (i2 k))
 have hlt:∀ k,S k -> k < W'.heap.size:=fun k hk=>bA (hp.lt k hk) ho.size
 refine ⟨cs,G,_,hp.put OBlock.nice hj { x with phis:=ps,code:=ys } (Fj:=F j) ho2 (hp.row.off ho fun k h1 h2=>nG k (h2.elim (i1 k) (i2 k)) h1) (fun _ _ _=>rfl) ?_ (fun k hk=>.inl hk) S (fun k hk=>hk) inS hlt⟩
 rw [hch]
 exact ⟨⟨_,_,_,S1,S2,S3,rfl,hps,hys,⟨⟨_,rfl,hto.off ho fun k a b=>b.elim (fun c=>h13 k c a) (fun c=>h23 k c a)⟩,q1,q2,q3⟩,h12,h13,h23,i1,i2,i3⟩,fun k hk=>hlt k (inS k hk)⟩
theorem eX.val {W:World} {S:Foot} {v:Value} {xs:List BlockD} (h:eX W S v xs) {j:Nat} {x:BlockD} (hj:xs[j]? = some x) {g cap:Nat} (hv:v = .slice (some ⟨g,0,none⟩) xs.length cap) {y:Int} (hy:In64 y) :
  eX (W.setCell ⟨g,j * 6+3,none⟩ (.int .i64 y)) S v (xs.set j { x with term := { x.term with val:=y } }):=by
 obtain ⟨cs,G,F,hp⟩:=h
 have hjl:=(aD.1 hj).1
 have hn:0 < xs.length:=by omega
 have hG:G g:=by
  obtain ⟨g',cap',hv',hg', -⟩:=hp.row.addr hn
  rw [hv] at hv';cases hv';exact hg'
 have hel:=hp.el j x hj
 obtain ⟨⟨pv,uv,t,S1,S2,S3,hch,h1,h2,h3,h12,h13,h23,i1,i2,i3⟩,hFl⟩:=hel
 obtain ⟨⟨tv,rfl,hto⟩,q1,q2,q3⟩:=h3
 have hoff:=Off.set W ⟨g,j * 6+3,none⟩ (.int .i64 y)
 have hFi:∀ k,F j k -> k ≠ g:=fun k hk e=>hp.free j hjl k hk (by rw [e];exact hG)
 have hnew:OBlock (W.setCell ⟨g,j * 6+3,none⟩ (.int .i64 y)) (F j) (iO (cs.set (j * 6+3) (.int .i64 y)) 6 j) { x with term := { x.term with val:=y } }:=by
  rw [fD (by omega),hch]
  exact ⟨⟨pv,uv,_,S1,S2,S3,rfl,h1.off OPhi.nice hoff (fun k hk e=>hFi k (i1 k hk) e),h2.off OInstr.nice hoff (fun k hk e=>hFi k (i2 k hk) e),⟨⟨tv,rfl,hto.off hoff (fun k hk e=>hFi k (i3 k hk) e)⟩,q1,hy,q3⟩,h12,h13,h23,i1,i2,i3⟩,fun k hk=>by simpa [World.setCell] using hFl k hk⟩
 exact ⟨_,G,_,hp.put OBlock.nice hj _ (Fj:=F j) (hoff.mono fun k _ hk=>by cases hk;exact .inl hG) (hp.row.set hv (by omega) (j * 6+3) _) (fun q hq hne=>iC hne (by omega)) hnew (fun k hk=>.inl hk) S (fun k hk=>hk) (fun k hk=>hp.inF j k hjl hk) (fun k hk=>by simpa [World.setCell] using hp.lt k hk)⟩
theorem yN (g:Int -> Int) (x:BlockD):mapB g x = { x with phis:=x.phis.map (mapP g),code:=x.code.map (mapX g),term:=mapT g x.term }:=rfl
end Go.Proofs.YtagabiidbbhhmaaGreat
