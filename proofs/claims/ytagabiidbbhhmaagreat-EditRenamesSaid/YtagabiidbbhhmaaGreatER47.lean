/- Part 47. -/
import Derived.Test.YtagabiidbbhhmaaGreatER33
import Derived.Test.YtagabiidbbhhmaaGreatER46
namespace Go.Proofs.YtagabiidbbhhmaaGreat
set_option linter.all false
open Go.RowKit
theorem aEV {x y:FuncD} (h1:x.params=y.params) (h2:x.arrays=y.arrays) (h3:x.cells=y.cells) (h4:x.blocks=y.blocks):x=y:=by
 obtain ⟨a,b,c,d⟩:=x
 obtain ⟨a',b',c',d'⟩:=y
 simp only at h1 h2 h3 h4
 subst h1 h2 h3 h4
 rfl
set_option maxHeartbeats 25600000 in
set_option maxRecDepth 100000 in
theorem uS {w:World} {v u:Value} {x y:FuncD} (hv:fU w v x) (hu:fU w u y) :
  Calls Tryz.prog 14 #[v,u] w fun e w'=>e = .returned (.bool (decide (x=y)))/\Below w.heap.size w w':=by
 obtain ⟨ap,cp,ab,cb,rfl,hp, -, -,hB⟩:=hv.form
 obtain ⟨bi,bd,bf,bq,rfl,cd, -, -,cj⟩:=hu.form
 obtain ⟨a',c',bb,bo,bw,ct,hbm, -,bt,ck⟩:=eY hB
 cases bw
 obtain ⟨a',c',bb2,bo2,bw,br,hbm2, -,ae,az⟩:=eY cj
 cases bw
 obtain ⟨np,cf⟩ : ∃ n,n=x.params.length:=⟨_,rfl⟩
 obtain ⟨nb,bl⟩ : ∃ n,n=x.blocks.length:=⟨_,rfl⟩
 obtain ⟨ar,cg⟩ : ∃ n,n=x.arrays:=⟨_,rfl⟩
 obtain ⟨ce,bs⟩ : ∃ n,n=x.cells:=⟨_,rfl⟩
 obtain ⟨bm,ad⟩ : ∃ n,n=y.params.length:=⟨_,rfl⟩
 obtain ⟨nb2,aa⟩ : ∃ n,n=y.blocks.length:=⟨_,rfl⟩
 obtain ⟨al,ag⟩ : ∃ n,n=y.arrays:=⟨_,rfl⟩
 obtain ⟨aj,af⟩ : ∃ n,n=y.cells:=⟨_,rfl⟩
 obtain ⟨q,hq⟩ : ∃ q,q=decide (x=y):=⟨_,rfl⟩
 rw [<-hq, <-cf, <-bl, <-cg, <-bs, <-ad, <-aa, <-ag, <-af]
 rw [<-bl] at ct bt
 rw [<-aa] at br ae
 rw [<-cf] at hp
 rw [<-ad] at cd
 have HQ:=h! hq
 have bv:=h! bl
 have ah:=h! aa
 have ay:=h! (And.intro cg ag)
 have ax:=h! (And.intro bs af)
 have HP:=h! hp
 have ci:=h! cd
 have cw:=h! bt
 have cB:=h! ck
 have ca:=h! ae
 have cc:=h! az
 clear hp cd hB cj hq cf bl cg bs ad aa ag af bt ck ae az hv hu
 go_enter Tryz.func14,Tryz.ntmps14
 go_upto_region 1 with (fail)
 have ak:=(Below.refl w.heap.size w).alloc (aB _) (.cells #[.slice ap np cp,.int .i64 ar,.int .i64 ce,.slice ab nb cb] 25)
 have HW:=h! ak
 clear ak
 have B1:=h! (Box.new w #[.slice ap np cp,.int .i64 ar,.int .i64 ce,.slice ab nb cb] 25)
 have ba:(w.alloc (.cells #[.slice ap np cp,.int .i64 ar,.int .i64 ce,.slice ab nb cb] 25)).heap.size=w.heap.size+1:=World.size_alloc _ _
 generalize w.alloc (.cells #[.slice ap np cp,.int .i64 ar,.int .i64 ce,.slice ab nb cb] 25)=bc at *
 have ak:=(Below.refl bc.heap.size bc).alloc (aB _) (.cells #[.slice bi bm bd,.int .i64 al,.int .i64 aj,.slice bf nb2 bq] 25)
 replace B1:=h! (B1.out.later ak)
 replace HW:=h! (HW.out.trans (ak.mono HW.out.size))
 clear ak
 have B2:=h! (Box.new bc #[.slice bi bm bd,.int .i64 al,.int .i64 aj,.slice bf nb2 bq] 25)
 rw [ba] at B2
 clear ba
 generalize bc.alloc (.cells #[.slice bi bm bd,.int .i64 al,.int .i64 aj,.slice bf nb2 bq] 25)=wv at *
 obtain ⟨ao,aw,an⟩:=B1.out
 obtain ⟨aq,ai,am⟩:=B2.out
 cases h1:(ar != al)
 rotate_left
 ·skip
  have ac:q=false:=by rw [HQ.out];exact decide_eq_false (fun e=>(by have h9:ar ≠ al:=(by simpa using h1);exact h9 (by rw [ay.out.1,ay.out.2,e])))
  subst ac
  go_wp2
  go_ret
  exact ⟨rfl,HW.out⟩
 cases h2:(ce != aj)
 rotate_left
 ·skip
  have ac:q=false:=by rw [HQ.out];exact decide_eq_false (fun e=>(by have h9:ce ≠ aj:=(by simpa using h2);exact h9 (by rw [ax.out.1,ax.out.2,e])))
  subst ac
  go_wp2
  go_ret
  exact ⟨rfl,HW.out⟩
 go_wp2_with fail
 refine (aBW (HP.out.below HW.out) (ci.out.below HW.out)).mono ?_
 rintro e w2 ⟨rfl,hb⟩
 obtain ⟨c,hc⟩ : ∃ c,c=decide (x.params=y.params):=⟨_,rfl⟩
 rw [<-hc]
 have HC:=h! hc
 clear hc
 clear ao aw an aq ai am
 replace B1:=h! (B1.out.later hb)
 replace B2:=h! (B2.out.later hb)
 replace HW:=h! (HW.out.trans (hb.mono HW.out.size))
 clear hb
 obtain ⟨ao,aw,an⟩:=B1.out
 obtain ⟨aq,ai,am⟩:=B2.out
 cases c
 ·skip
  have ac:q=false:=by rw [HQ.out];exact decide_eq_false (fun e=>(by have h9:=HC.out;simp [e] at h9))
  subst ac
  go_wp2
  go_ret
  exact ⟨rfl,HW.out⟩
 cases h3:((nb:Int) != (nb2:Int))
 rotate_left
 ·skip
  have ac:q=false:=by rw [HQ.out];exact decide_eq_false (fun e=>(by have h9:nb ≠ nb2:=(by simp at h3;omega);exact h9 (by rw [bv.out,ah.out,e])))
  subst ac
  go_wp2
  go_ret
  exact ⟨rfl,HW.out⟩
 have bz:Hid (x.params=y.params/\x.arrays=y.arrays/\x.cells=y.cells):=h! ⟨by simpa using HC.out.symm,by rw [<-ay.out.1, <-ay.out.2];simpa using h1,by rw [<-ax.out.1, <-ax.out.2];simpa using h2⟩
 obtain rfl:nb=nb2:=by simp at h3;omega
 clear HC ay ax HP ci
 go_wp2_with fail
 clear h1 h2 h3
 go_loopw [5] (fun i wr => ∃ k:Nat,k <= nb/\i = .int .i64 k/\Below w.heap.size w wr/\Box wr w.heap.size #[.slice ap np cp,.int .i64 ar,.int .i64 ce,.slice ab nb cb]/\Box wr (w.heap.size+1) #[.slice bi bm bd,.int .i64 al,.int .i64 aj,.slice bf nb bq] /\ ∀ j,j < k -> x.blocks[j]? = y.blocks[j]?) (fun i _=>nb - (intOf i).toNat)
 case atStart=>exact ⟨0,aJ _,rfl,HW.out,B1.out,B2.out,fun j h=>absurd h (eS _)⟩
 case round =>
  obtain ⟨k,hk,rfl,hW,co,bk,hs⟩:=hrel
  clear ao aw an aq ai am
  replace HW:=h! hW
  replace B1:=h! co
  replace B2:=h! bk
  have HS:=h! hs
  clear hW co bk hs
  obtain ⟨ao,aw,an⟩:=B1.out
  obtain ⟨aq,ai,am⟩:=B2.out
  by_cases hlt:k < nb
  ·obtain ⟨rfl,cz⟩:=cw.out (by omega)
   obtain ⟨rfl,ch⟩:=ca.out (by omega)
   obtain ⟨p,bx⟩ : ∃ p,x.blocks[k]? = some p:=⟨_,aC (by have:=bv.out;omega)⟩
   obtain ⟨r,bO⟩ : ∃ r,y.blocks[k]? = some r:=⟨_,aC (by have:=ah.out;omega)⟩
   obtain ⟨p1,p2,p3,q1,q2,q3,hP⟩:=cB.out k p bx
   obtain ⟨r1,r2,r3,s1,s2,s3,hR⟩:=cc.out k r bO
   have cl:=h! bx
   have cq:=h! bO
   have cm:=h! hP
   have cn:=h! hR
   obtain ⟨c,hc⟩ : ∃ c,c=decide (p=r):=⟨_,rfl⟩
   have HC:=h! hc
   have cx:Hid (∀ w4,Below wr.heap.size wr w4 -> Calls Tryz.prog 45 #[.agg #[.slice p1 p.phis.length q1,.slice p2 p.code.length q2,.int .i64 p.term.op,.int .i64 p.term.val,.slice p3 p.term.to.length q3,.int .i64 p.term.n],.agg #[.slice r1 r.phis.length s1,.slice r2 r.code.length s2,.int .i64 r.term.op,.int .i64 r.term.val,.slice r3 r.term.to.length s3,.int .i64 r.term.n]] w4 fun e w'=>e = .returned (.bool c)/\Below w4.heap.size w4 w'):=h! (fun w4 hb=>by
    rw [hc]
    exact sO ((cm.out.blockV.below HW.out).below hb) ((cn.out.blockV.below HW.out).below hb))
   have cy:Hid (p ≠ r -> q=false):=h! (fun h=>by rw [HQ.out];exact decide_eq_false (fun e=>h (by have h9:=cl.out;rw [e,cq.out] at h9;cases h9;rfl)))
   clear bx bO hP hR hc
   go_upto_region 6 with (fail)
   refine wp_region_grow 12 (fun kz=>match kz with | 10=>.const (.bool c) | _=>.plain) (by kernel_rfl) (by kernel_rfl) ?_ (fun ν => ?_)
   ·(intro k;(try dsimp only);split <;> first | exact True.intro | (intro u w1 w2 hu hb;exact hu.below hb))
   simp only [aO,aS,aP,aU]
   iterate 4 (refine Grow.val (v := ?_) rfl rfl (fun wg hbg hdg => ?_) ?_;rotate_left;(focus ((obtain ⟨bg,bh,be⟩:=B1.out.later hbg);(obtain ⟨bp,bj,bn⟩:=B2.out.later hbg);clear hbg hdg;first | (go_simp;done) | (go_simp;with_reducible rfl)));simp only [Act.put,aA,aD,aE])
   refine Grow.val (v := ?_) rfl rfl (fun wg hbg hdg => ?_) ?_
   rotate_left
   focus ((obtain ⟨bg,bh,be⟩:=B1.out.later hbg);(obtain ⟨bp,bj,bn⟩:=B2.out.later hbg);(obtain ⟨m0,m1,m2,m3,m4,m5, -, -, -, -, -, -⟩:=cm.out.below (HW.out.trans (hbg.mono HW.out.size)) cz);clear hbg hdg;first | (go_simp;done) | (go_simp;with_reducible rfl))
   simp only [Act.put,aA,aD,aE]
   iterate 4 (refine Grow.val (v := ?_) rfl rfl (fun wg hbg hdg => ?_) ?_;rotate_left;(focus ((obtain ⟨bg,bh,be⟩:=B1.out.later hbg);(obtain ⟨bp,bj,bn⟩:=B2.out.later hbg);clear hbg hdg;first | (go_simp;done) | (go_simp;with_reducible rfl)));simp only [Act.put,aA,aD,aE])
   refine Grow.val (v := ?_) rfl rfl (fun wg hbg hdg => ?_) ?_
   rotate_left
   focus ((obtain ⟨bg,bh,be⟩:=B1.out.later hbg);(obtain ⟨bp,bj,bn⟩:=B2.out.later hbg);(obtain ⟨m0,m1,m2,m3,m4,m5, -, -, -, -, -, -⟩:=cn.out.below (HW.out.trans (hbg.mono HW.out.size)) ch);clear hbg hdg;first | (go_simp;done) | (go_simp;with_reducible rfl))
   simp only [Act.put,aA,aD,aE]
   refine Grow.call (f := ?_) (args := ?_) rfl (fun wg => ?_) (fun wg hbg hdg => ?_) ?_
   rotate_left 2
   focus (first | (go_simp;done) | (go_simp;refine And.intro ?_ ?_ <;> with_reducible rfl) | (go_simp;with_reducible rfl))
   focus exact Calls.mono (cx.out wg hbg) (fun e w2 ⟨he,bk⟩=>⟨_,he,rfl,bk⟩)
   simp only [Act.put,Known.val,aA,aD,aE]
   refine Grow.val (v := ?_) rfl rfl (fun wg hbg hdg => ?_) ?_
   rotate_left
   focus ((obtain ⟨bg,bh,be⟩:=B1.out.later hbg);(obtain ⟨bp,bj,bn⟩:=B2.out.later hbg);clear hbg hdg;first | (go_simp;done) | (go_simp;with_reducible rfl))
   simp only [Act.put,aA,aD,aE]
   intro wg hb hf cv
   clear cv
   clear ao aw an aq ai am
   replace B1:=h! (B1.out.later hb)
   replace B2:=h! (B2.out.later hb)
   replace HW:=h! (HW.out.trans (hb.mono HW.out.size))
   clear hb
   obtain ⟨ao,aw,an⟩:=B1.out
   obtain ⟨aq,ai,am⟩:=B2.out
   clear hf
   cases c
   ·have ac:q=false:=cy.out (by have:=HC.out;simpa using this)
    subst ac
    go_wp2
    go_ret
    exact ⟨rfl,HW.out⟩
   have cr:Hid (p=r):=h! (by have:=HC.out;simpa using this)
   go_wp2
   go_roundw
   case rel =>
    refine ⟨k+1,hlt,by go_num,HW.out,B1.out,B2.out,fun j hj => ?_⟩
    by_cases e:j=k
    ·subst e;rw [cl.out,cq.out,cr.out]
    exact HS.out j (by omega)
   simp [intOf];omega
  have cs:q=true:=by rw [HQ.out];exact decide_eq_true (aEV bz.out.1 bz.out.2.1 bz.out.2.2 (oV bv.out ah.out (fun j hj=>HS.out j (by omega))))
  subst cs
  go_wp2
  go_ret
  exact ⟨rfl,HW.out⟩
theorem fU.later {W W' : World} {v:Value} {f:FuncD} (h:fU W v f) (hb:Below W.heap.size W W'):fU W' v f:=h.below hb
theorem fU.alloc {W:World} {v:Value} {f:FuncD} (h:fU W v f) (o:Obj):fU (W.alloc o) v f:=h.below ((Below.refl _ _).alloc (aB _) o)
theorem yH {f:FuncD} {b:Int} (h:gY f b 0):gY f 0 0:=by
 have h0:=h
 unfold gY at h
 rcases h with ⟨c, -, -, -, -,h⟩ | ⟨h1,⟨c,x, -, -, -, -,h⟩ | ⟨h2,⟨i,u, -, -, -, -,h⟩ | ⟨h3,rfl, -⟩⟩⟩
 ·cases h
 ·cases h
 ·cases h
 exact h0
def mapP (g:Int -> Int) (p:PhiD):PhiD := { p with vals:=p.vals.map g }
def mapX (g:Int -> Int) (x:InstrD):InstrD := { x with args:=x.args.map g }
def mapT (g:Int -> Int) (t:TermD):TermD:=if t.op=2 \/ t.op=3 then { t with val:=g t.val } else t
def mapB (g:Int -> Int) (x:BlockD):BlockD:=⟨x.phis.map (mapP g),x.code.map (mapX g),mapT g x.term⟩
def SErr (f:FuncD) (k:Int):Prop:=(eZ f ≠ 0/\k=eZ f) \/ (eZ f=0 /\ ∃ b,gY f b k)
theorem SErr.one {f:FuncD} {k k' : Int} (h:SErr f k) (h' : SErr f k'):k=k':=by
 rcases h with ⟨h1,rfl⟩ | ⟨h1,b,h2⟩
 ·rcases h' with ⟨_,rfl⟩ | ⟨h3,_⟩
  ·rfl
  exact absurd h3 h1
 rcases h' with ⟨h3,_⟩ | ⟨_,b',h4⟩
 ·exact absurd h1 h3
 exact (zX h2 h4).2
theorem SErr.of_check {f:FuncD} {b k:Int} (h1:eZ f ≠ 0 -> b=0/\k=eZ f) (h2:eZ f=0 -> gY f b k):SErr f k:=by
 by_cases h:eZ f=0
 ·exact .inr ⟨h,b,h2 h⟩
 exact .inl ⟨h,(h1 h).2⟩
theorem SErr.zero {f:FuncD} (h:SErr f 0):eZ f=0/\gY f 0 0:=by
 rcases h with ⟨h1,h2⟩ | ⟨h1,b,h2⟩
 ·exact absurd h2.symm h1
 exact ⟨h1,yH h2⟩
def gC {α : Type} (g : α -> α) (xs:List α) (i:Nat):List α := (xs.take i).map g ++ xs.drop i
theorem pN {α : Type} (g : α -> α) (xs:List α) (i q:Nat):(gC g xs i)[q]? = if q < i then (xs[q]?).map g else xs[q]?:=by
 unfold gC
 rw [dA]
 simp only [aW,aV]
 by_cases h:q < i
 ·rw [if_pos h]
  by_cases h2:q < xs.length
  ·rw [if_pos (by omega),aQ,bC,if_pos h]
  rw [if_neg (by omega),bT,aT (by omega),aT (by omega)];rfl
 rw [if_neg h,if_neg (by omega),bT]
 by_cases h2:i <= xs.length
 ·rw [show i+(q - min i xs.length)=q by omega]
 rw [aT (by omega),aT (by omega)]
theorem fR {α : Type} (g : α -> α) (xs:List α):gC g xs 0=xs:=by simp [gC]
theorem eV {α : Type} (g : α -> α) (xs:List α) (i:Nat):(gC g xs i).length=xs.length:=by unfold gC;rw [aI,aW,aV,dF];omega
theorem gD {α : Type} (g : α -> α) (xs:List α):gC g xs xs.length=xs.map g:=by unfold gC;rw [cX,List.drop_length,bY]
theorem fW {α : Type} (g : α -> α) (xs:List α) (i:Nat):(gC g xs i)[i]? = xs[i]?:=by rw [pN,if_neg (Nat.lt_irrefl _)]
theorem fX {α : Type} {g : α -> α} {xs:List α} {i:Nat} {x : α} (h:xs[i]? = some x):(gC g xs i).set i (g x)=gC g xs (i+1):=by
 apply bJ
 intro q
 rw [cJ,eV,pN,pN]
 have hl:=(aF.1 h).1
 by_cases e:i=q
 ·subst e
  rw [if_pos rfl,if_pos hl,if_pos (by omega),h];rfl
 rw [if_neg e]
 by_cases h2:q < i
 ·rw [if_pos h2,if_pos (by omega)]
 rw [if_neg h2,if_neg (by omega)]
theorem fS.vals {W:World} {S:Foot} {v:Value} {ps:List PhiD} (h:fS W S v ps) {j:Nat} {p:PhiD} (hj:ps[j]? = some p) :
  ∃ (g cap:Nat) (af av:Option Addr) (cf cv:Nat) (Sv:Foot),v = .slice (some ⟨g,0,none⟩) ps.length cap/\g < W.heap.size/\S g/\PhiC W g (j * 4) p af av cf cv/\(∀ o,W.frozen? ⟨g,o,none⟩=false) /\
   eU W Sv (.slice av p.vals.length cv) p.vals/\(∀ k,Sv k -> S k) /\ ¬ Sv g /\
   (∀ (W' : World) (vals:List Int),Off Sv W W' -> eU W' Sv (.slice av p.vals.length cv) vals -> fS W' S v (ps.set j { p with vals:=vals })):=by
 obtain ⟨cs,G,F,hp⟩:=h
 have ae:=(aF.1 hj).1
 obtain ⟨g,cap,hv,hG, -, -,aj,aa,ah⟩:=hp.row.addr (by omega)
 obtain ⟨⟨a,b,Sf,Sv,ag,h1,h2,ac,i1,i2⟩,hFl,q1,q2⟩:=hp.el j p hj
 obtain ⟨af,cf,rfl⟩:=h1.ints.form
 obtain ⟨av,cv,rfl⟩:=h2.ints.form
 have hc:∀ o u,o < 4 -> (iR cs 4 j)[o]? = some u -> W.cell? ⟨g,j * 4+o,none⟩=some u:=fun o u ho hu=>aa _ _ (by rw [<-jQ ho];exact hu)
 rw [ag] at hc
 have nG:∀ k,F j k -> ¬ G k:=hp.free j ae
 have ab:∀ k,F j k -> S k:=fun k hk=>hp.inF j k ae hk
 refine ⟨g,cap,af,av,cf,cv,Sv,hv,aj,hp.inG g hG,⟨hc 0 _ (by omega) rfl,hc 1 _ (by omega) rfl,hc 2 _ (by omega) rfl,hc 3 _ (by omega) rfl,h1.ints,h2.ints,q1,q2⟩,ah,h2,fun k hk=>ab k (i2 k hk),fun hk=>nG g (i2 g hk) hG,fun W' vals ho ha => ?_⟩
 have ai:Off (G.or (F j)) W W':=ho.mono fun k _ hk=>.inr (i2 k hk)
 have ad:∀ k,S k -> k < W'.heap.size:=fun k hk=>aY (hp.lt k hk) ho.size
 refine ⟨cs,G,_,hp.put OPhi.nice hj { p with vals:=vals } (Fj:=F j) ai (hp.row.off ho fun k h1 h2=>nG k (i2 k h2) h1) (fun _ _ _=>rfl) ?_ (fun k hk=>.inl hk) S (fun k hk=>hk) (fun k hk=>ab k hk) ad⟩
 rw [ag]
 exact ⟨⟨_,_,Sf,Sv,rfl,h1.off ho ac,ha,ac,i1,i2⟩,fun k hk=>ad k (ab k hk),q1,q2⟩
theorem gL.open {W:World} {S:Foot} {v:Value} {ys:List InstrD} (h:gL W S v ys) {j:Nat} {y:InstrD} (hj:ys[j]? = some y) :
  ∃ (g cap:Nat) (aa:Option Addr) (ca:Nat) (Sa:Foot),v = .slice (some ⟨g,0,none⟩) ys.length cap/\g < W.heap.size/\S g/\InstrC W g (j * 4) y aa ca/\(∀ o,W.frozen? ⟨g,o,none⟩=false) /\
   eU W Sa (.slice aa y.args.length ca) y.args/\(∀ k,Sa k -> S k) /\ ¬ Sa g /\
   (∀ (W' : World) (args:List Int),Off Sa W W' -> eU W' Sa (.slice aa y.args.length ca) args -> gL W' S v (ys.set j { y with args:=args })):=by
 obtain ⟨cs,G,F,hp⟩:=h
 have ad:=(aF.1 hj).1
 obtain ⟨g,cap,hv,hG, -, -,ai,ab,af⟩:=hp.row.addr (by omega)
 obtain ⟨⟨a,ae,h1⟩,q1,q2,q3⟩:=hp.el j y hj
 obtain ⟨aa,ca,rfl⟩:=h1.ints.form
 have hc:∀ o u,o < 4 -> (iR cs 4 j)[o]? = some u -> W.cell? ⟨g,j * 4+o,none⟩=some u:=fun o u ho hu=>ab _ _ (by rw [<-jQ ho];exact hu)
 rw [ae] at hc
 have nG:∀ k,F j k -> ¬ G k:=hp.free j ad
 have ac:∀ k,F j k -> S k:=fun k hk=>hp.inF j k ad hk
 refine ⟨g,cap,aa,ca,F j,hv,ai,hp.inG g hG,⟨hc 0 _ (by omega) rfl,hc 1 _ (by omega) rfl,hc 2 _ (by omega) rfl,hc 3 _ (by omega) rfl,h1.ints,q1,q2,q3⟩,af,h1,ac,fun hk=>nG g hk hG,fun W' args ho ha => ?_⟩
 have ah:Off (G.or (F j)) W W':=ho.mono fun k _ hk=>.inr hk
 have ag:∀ k,S k -> k < W'.heap.size:=fun k hk=>aY (hp.lt k hk) ho.size
 refine ⟨cs,G,_,hp.put OInstr.nice hj { y with args:=args } (Fj:=F j) ah (hp.row.off ho fun k h1 h2=>nG k h2 h1) (fun _ _ _=>rfl) ?_ (fun k hk=>.inl hk) S (fun k hk=>hk) ac ag⟩
 rw [ae]
 exact ⟨⟨_,rfl,ha⟩,q1,q2,q3⟩
theorem fA.opened {W:World} {S:Foot} {v:Value} {xs:List BlockD} (h:fA W S v xs) {j:Nat} {x:BlockD} (hj:xs[j]? = some x) :
  ∃ (g cap:Nat) (ap ai at_:Option Addr) (cp ci ct:Nat) (S1 S2:Foot),v = .slice (some ⟨g,0,none⟩) xs.length cap/\g < W.heap.size/\S g/\BlockC W g (j * 6) x ap ai at_ cp ci ct/\(∀ o,W.frozen? ⟨g,o,none⟩=false) /\
   fS W S1 (.slice ap x.phis.length cp) x.phis/\gL W S2 (.slice ai x.code.length ci) x.code/\(∀ k,S1 k -> S k)/\(∀ k,S2 k -> S k)/\S1.off S2 /\ ¬ S1 g /\ ¬ S2 g /\
   (∀ (W' : World) (ps:List PhiD) (ys:List InstrD),Off (S1.or S2) W W' -> fS W' S1 (.slice ap x.phis.length cp) ps -> gL W' S2 (.slice ai x.code.length ci) ys -> fA W' S v (xs.set j { x with phis:=ps,code:=ys })):=by
 obtain ⟨cs,G,F,hp⟩:=h
 have ag:=(aF.1 hj).1
 obtain ⟨g,cap,hv,hG, -, -,am,aa,ak⟩:=hp.row.addr (by omega)
 obtain ⟨⟨pv,uv,t,S1,S2,S3,aj,h1,h2,h3,ad,ae,ah,i1,i2,i3⟩,hFl⟩:=hp.el j x hj
 obtain ⟨⟨tv,rfl,ac⟩,q1,q2,q3⟩:=h3
 obtain ⟨ap,cp,rfl⟩:=(h1.reads (R0:=PhiR) fun _ _ _ h=>h.reads).form
 obtain ⟨ai,ci,rfl⟩:=(h2.reads (R0:=iB) fun _ _ _ h=>h.reads).form
 obtain ⟨at_,ct,rfl⟩:=ac.ints.form
 have hc:∀ o u,o < 6 -> (iR cs 6 j)[o]? = some u -> W.cell? ⟨g,j * 6+o,none⟩=some u:=fun o u ho hu=>aa _ _ (by rw [<-jQ ho];exact hu)
 rw [aj] at hc
 have nG:∀ k,F j k -> ¬ G k:=hp.free j ag
 have ab:∀ k,F j k -> S k:=fun k hk=>hp.inF j k ag hk
 refine ⟨g,cap,ap,ai,at_,cp,ci,ct,S1,S2,hv,am,hp.inG g hG,⟨hc 0 _ (by omega) rfl,hc 1 _ (by omega) rfl,hc 2 _ (by omega) rfl,hc 3 _ (by omega) rfl,hc 4 _ (by omega) rfl,hc 5 _ (by omega) rfl,h1.reads fun _ _ _ h=>h.reads,h2.reads fun _ _ _ h=>h.reads,ac.ints,q1,q2,q3⟩,ak,h1,h2,
  fun k hk=>ab k (i1 k hk),fun k hk=>ab k (i2 k hk),ad,fun h=>nG g (i1 g h) hG,fun h=>nG g (i2 g h) hG,fun W' ps ys ho hps hys => ?_⟩
 have al:Off (G.or (F j)) W W':=ho.mono fun k _ hk=>.inr (hk.elim (i1 k) (i2 k))
 have af:∀ k,S k -> k < W'.heap.size:=fun k hk=>aY (hp.lt k hk) ho.size
 refine ⟨cs,G,_,hp.put OBlock.nice hj { x with phis:=ps,code:=ys } (Fj:=F j) al (hp.row.off ho fun k h1 h2=>nG k (h2.elim (i1 k) (i2 k)) h1) (fun _ _ _=>rfl) ?_ (fun k hk=>.inl hk) S (fun k hk=>hk) ab af⟩
 rw [aj]
 exact ⟨⟨_,_,_,S1,S2,S3,rfl,hps,hys,⟨⟨_,rfl,ac.off ho fun k a b=>b.elim (fun c=>ae k c a) (fun c=>ah k c a)⟩,q1,q2,q3⟩,ad,ae,ah,i1,i2,i3⟩,fun k hk=>af k (ab k hk)⟩
theorem fA.val {W:World} {S:Foot} {v:Value} {xs:List BlockD} (h:fA W S v xs) {j:Nat} {x:BlockD} (hj:xs[j]? = some x) {g cap:Nat} (hv:v = .slice (some ⟨g,0,none⟩) xs.length cap) {y:Int} (hy:In64 y) :
  fA (W.setCell ⟨g,j * 6+3,none⟩ (.int .i64 y)) S v (xs.set j { x with term := { x.term with val:=y } }):=by
 obtain ⟨cs,G,F,hp⟩:=h
 have ae:=(aF.1 hj).1
 have hn:0 < xs.length:=by omega
 have hG:G g:=by
  obtain ⟨g',cap',ad,aj, -⟩:=hp.row.addr hn
  rw [hv] at ad;cases ad;exact aj
 have ai:=hp.el j x hj
 obtain ⟨⟨pv,uv,t,S1,S2,S3,al,h1,h2,h3,af,ag,ak,i1,i2,i3⟩,ah⟩:=ai
 obtain ⟨⟨tv,rfl,am⟩,q1,q2,q3⟩:=h3
 have aa:=Off.set W ⟨g,j * 6+3,none⟩ (.int .i64 y)
 have ab:∀ k,F j k -> k ≠ g:=fun k hk e=>hp.free j ae k hk (by rw [e];exact hG)
 have ac:OBlock (W.setCell ⟨g,j * 6+3,none⟩ (.int .i64 y)) (F j) (iR (cs.set (j * 6+3) (.int .i64 y)) 6 j) { x with term := { x.term with val:=y } }:=by
  rw [fE (by omega),al]
  exact ⟨⟨pv,uv,_,S1,S2,S3,rfl,h1.off OPhi.nice aa (fun k hk e=>ab k (i1 k hk) e),h2.off OInstr.nice aa (fun k hk e=>ab k (i2 k hk) e),⟨⟨tv,rfl,am.off aa (fun k hk e=>ab k (i3 k hk) e)⟩,q1,hy,q3⟩,af,ag,ak,i1,i2,i3⟩,fun k hk=>by simpa [World.setCell] using ah k hk⟩
 exact ⟨_,G,_,hp.put OBlock.nice hj _ (Fj:=F j) (aa.mono fun k _ hk=>by cases hk;exact .inl hG) (hp.row.set hv (by omega) (j * 6+3) _) (fun q hq hne=>gQ hne (by omega)) ac (fun k hk=>.inl hk) S (fun k hk=>hk) (fun k hk=>hp.inF j k ae hk) (fun k hk=>by simpa [World.setCell] using hp.lt k hk)⟩
theorem aBJ (g:Int -> Int) (x:BlockD):mapB g x = { x with phis:=x.phis.map (mapP g),code:=x.code.map (mapX g),term:=mapT g x.term }:=rfl
end Go.Proofs.YtagabiidbbhhmaaGreat
