/- Part 45. -/
import Derived.Test.YtagabiidbbhhmaaGreatEU41
import Derived.Test.YtagabiidbbhhmaaGreatEU44
namespace Go.Proofs.YtagabiidbbhhmaaGreat
set_option linter.all false
section
open Go.RowKit
theorem Off.frozen {S:Foot} {W W' : World} (h:Off S W W') {b o:Nat} (hl:b < W.heap.size) (hn:¬ S b):W'.frozen? ⟨b,o,none⟩=W.frozen? ⟨b,o,none⟩:=World.frozen?_of_block (w:=W) (a:=⟨b,o,none⟩) (h.block b hl hn)
theorem oM {w:World} {ops:Array Oper} {rest:List Oper} {o:Oper} {a:Act} {Q:Exit -> Act -> World -> Prop} (hgd:o.guard=none) (s x:Operand)
  (ho:o.op = .call { callee:=.builtin .append,args:=#[s,x],argTypes:=#[22,22] }) {v:Value} {B:Nat} {y:Int} (hs:a.eval s=v) (hx:a.eval x = .slice (some ⟨B,0,none⟩) 1 1) {S:Foot} {xs:List Int} {n:Nat} (hn:xs.length=n)
  (H:eR w S v xs) (hB:Box w B #[.int .i64 y]) (hy:In64 y) (hlen:n+1 <= 100000)
  (hK:∀ g cap w',eR w' (Foot.one g) (.slice (some ⟨g,0,none⟩) (n+1) cap) (xs ++ [y]) -> (S g \/ w.heap.size <= g) -> Off S w w' -> wpList Tryz.prog ops Q rest (a.put o.dst (.slice (some ⟨g,0,none⟩) (n+1) cap)) w'):wpList Tryz.prog ops Q (o :: rest) a w:=by
 refine mI (P:=Tryz.prog) hgd s x 22 3 ho nK hs hx H.1 (qY (n:=1) (size:=1) (ds:=[.int .i64 y]) hB rfl (by omega)) (by intro u hu;simp at hu;subst hu;rfl) (by omega) (by omega) fun v' w' G' r1 r2 r3 => ?_
 have hO:eR w' G' v' (xs ++ [y]):=by
  refine ⟨?_,fun z hz => ?_⟩
  ·rw [aI,bD];exact r1
  rcases aL.1 hz with h | h
  ·exact H.2 z h
  simp at h;subst h;exact hy
 obtain ⟨g,cap,rfl,hg, -⟩:=hO.1.addr (by simp)
 have hl:(xs ++ [y]).length=n+1:=by simp [hn]
 rw [hl] at hO ⊢
 obtain ⟨k1,k2⟩:=hO.narrow (by omega)
 exact hK g cap w' k1 (r2 g k2) r3
end
section
open Go.RowKit
theorem aDT {x y:FuncD} (h1:x.params=y.params) (h2:x.arrays=y.arrays) (h3:x.cells=y.cells) (h4:x.blocks=y.blocks):x=y:=by
 obtain ⟨a,b,c,d⟩:=x
 obtain ⟨a',b',c',d'⟩:=y
 simp only at h1 h2 h3 h4
 subst h1 h2 h3 h4
 rfl
set_option maxHeartbeats 25600000 in
set_option maxRecDepth 100000 in
theorem aDU {w:World} {v u:Value} {x y:FuncD} (hv:fP w v x) (hu:fP w u y) :
  Calls Tryz.prog 14 #[v,u] w fun e w'=>e = .returned (.bool (decide (x=y)))/\Below w.heap.size w w':=by
 obtain ⟨ap,cp,ab,cb,rfl,hp, -, -,hB⟩:=hv.form
 obtain ⟨bc,bg,bf,bn,rfl,bt, -, -,cm⟩:=hu.form
 obtain ⟨a',c',bb,bo,ch,cy,hbm, -,cc,cq⟩:=eW hB
 cases ch
 obtain ⟨a',c',bb2,bo2,ch,bs,hbm2, -,ag,az⟩:=eW cm
 cases ch
 obtain ⟨np,bx⟩ : ∃ n,n=x.params.length:=⟨_,rfl⟩
 obtain ⟨nb,bl⟩ : ∃ n,n=x.blocks.length:=⟨_,rfl⟩
 obtain ⟨ar,bz⟩ : ∃ n,n=x.arrays:=⟨_,rfl⟩
 obtain ⟨ce,cf⟩ : ∃ n,n=x.cells:=⟨_,rfl⟩
 obtain ⟨bh,af⟩ : ∃ n,n=y.params.length:=⟨_,rfl⟩
 obtain ⟨nb2,ac⟩ : ∃ n,n=y.blocks.length:=⟨_,rfl⟩
 obtain ⟨ak,ad⟩ : ∃ n,n=y.arrays:=⟨_,rfl⟩
 obtain ⟨al,ah⟩ : ∃ n,n=y.cells:=⟨_,rfl⟩
 obtain ⟨q,hq⟩ : ∃ q,q=decide (x=y):=⟨_,rfl⟩
 rw [<-hq, <-bx, <-bl, <-bz, <-cf, <-af, <-ac, <-ad, <-ah]
 rw [<-bl] at cy cc
 rw [<-ac] at bs ag
 rw [<-bx] at hp
 rw [<-af] at bt
 have HQ:=h! hq
 have cd:=h! bl
 have ae:=h! ac
 have ba:=h! (And.intro bz ad)
 have ax:=h! (And.intro cf ah)
 have HP:=h! hp
 have co:=h! bt
 have cx:=h! cc
 have cw:=h! cq
 have bv:=h! ag
 have br:=h! az
 clear hp bt hB cm hq bx bl bz cf af ac ad ah cc cq ag az hv hu
 go_enter Tryz.func14,Tryz.ntmps14
 go_upto_region 1 with (fail)
 have an:=(Below.refl w.heap.size w).alloc (aC _) (.cells #[.slice ap np cp,.int .i64 ar,.int .i64 ce,.slice ab nb cb] 25)
 have HW:=h! an
 clear an
 have B1:=h! (Box.new w #[.slice ap np cp,.int .i64 ar,.int .i64 ce,.slice ab nb cb] 25)
 have ay:(w.alloc (.cells #[.slice ap np cp,.int .i64 ar,.int .i64 ce,.slice ab nb cb] 25)).heap.size=w.heap.size+1:=World.size_alloc _ _
 generalize w.alloc (.cells #[.slice ap np cp,.int .i64 ar,.int .i64 ce,.slice ab nb cb] 25)=bk at *
 have an:=(Below.refl bk.heap.size bk).alloc (aC _) (.cells #[.slice bc bh bg,.int .i64 ak,.int .i64 al,.slice bf nb2 bn] 25)
 replace B1:=h! (B1.out.later an)
 replace HW:=h! (HW.out.trans (an.mono HW.out.size))
 clear an
 have B2:=h! (Box.new bk #[.slice bc bh bg,.int .i64 ak,.int .i64 al,.slice bf nb2 bn] 25)
 rw [ay] at B2
 clear ay
 generalize bk.alloc (.cells #[.slice bc bh bg,.int .i64 ak,.int .i64 al,.slice bf nb2 bn] 25)=wv at *
 obtain ⟨aj,ai,am⟩:=B1.out
 obtain ⟨aq,ao,aw⟩:=B2.out
 cases h1:(ar != ak)
 rotate_left
 ·skip
  have aa:q=false:=by rw [HQ.out];exact decide_eq_false (fun e=>(by have h9:ar ≠ ak:=(by simpa using h1);exact h9 (by rw [ba.out.1,ba.out.2,e])))
  subst aa
  go_wp2
  go_ret
  exact ⟨rfl,HW.out⟩
 cases h2:(ce != al)
 rotate_left
 ·skip
  have aa:q=false:=by rw [HQ.out];exact decide_eq_false (fun e=>(by have h9:ce ≠ al:=(by simpa using h2);exact h9 (by rw [ax.out.1,ax.out.2,e])))
  subst aa
  go_wp2
  go_ret
  exact ⟨rfl,HW.out⟩
 go_wp2_with fail
 refine (yU (HP.out.below HW.out) (co.out.below HW.out)).mono ?_
 rintro e w2 ⟨rfl,hb⟩
 obtain ⟨c,hc⟩ : ∃ c,c=decide (x.params=y.params):=⟨_,rfl⟩
 rw [<-hc]
 have HC:=h! hc
 clear hc
 clear aj ai am aq ao aw
 replace B1:=h! (B1.out.later hb)
 replace B2:=h! (B2.out.later hb)
 replace HW:=h! (HW.out.trans (hb.mono HW.out.size))
 clear hb
 obtain ⟨aj,ai,am⟩:=B1.out
 obtain ⟨aq,ao,aw⟩:=B2.out
 cases c
 ·skip
  have aa:q=false:=by rw [HQ.out];exact decide_eq_false (fun e=>(by have h9:=HC.out;simp [e] at h9))
  subst aa
  go_wp2
  go_ret
  exact ⟨rfl,HW.out⟩
 cases h3:((nb:Int) != (nb2:Int))
 rotate_left
 ·skip
  have aa:q=false:=by rw [HQ.out];exact decide_eq_false (fun e=>(by have h9:nb ≠ nb2:=(by simp at h3;omega);exact h9 (by rw [cd.out,ae.out,e])))
  subst aa
  go_wp2
  go_ret
  exact ⟨rfl,HW.out⟩
 have bw:Hid (x.params=y.params/\x.arrays=y.arrays/\x.cells=y.cells):=h! ⟨by simpa using HC.out.symm,by rw [<-ba.out.1, <-ba.out.2];simpa using h1,by rw [<-ax.out.1, <-ax.out.2];simpa using h2⟩
 obtain rfl:nb=nb2:=by simp at h3;omega
 clear HC ba ax HP co
 go_wp2_with fail
 clear h1 h2 h3
 go_loopw [5] (fun i wr => ∃ k:Nat,k <= nb/\i = .int .i64 k/\Below w.heap.size w wr/\Box wr w.heap.size #[.slice ap np cp,.int .i64 ar,.int .i64 ce,.slice ab nb cb]/\Box wr (w.heap.size+1) #[.slice bc bh bg,.int .i64 ak,.int .i64 al,.slice bf nb bn] /\ ∀ j,j < k -> x.blocks[j]? = y.blocks[j]?) (fun i _=>nb - (intOf i).toNat)
 case atStart=>exact ⟨0,aH _,rfl,HW.out,B1.out,B2.out,fun j h=>absurd h (eC _)⟩
 case round =>
  obtain ⟨k,hk,rfl,hW,cj,bq,hs⟩:=hrel
  clear aj ai am aq ao aw
  replace HW:=h! hW
  replace B1:=h! cj
  replace B2:=h! bq
  have HS:=h! hs
  clear hW cj bq hs
  obtain ⟨aj,ai,am⟩:=B1.out
  obtain ⟨aq,ao,aw⟩:=B2.out
  by_cases hlt:k < nb
  ·obtain ⟨rfl,cr⟩:=cx.out (by omega)
   obtain ⟨rfl,bO⟩:=bv.out (by omega)
   obtain ⟨p,cg⟩ : ∃ p,x.blocks[k]? = some p:=⟨_,aB (by have:=cd.out;omega)⟩
   obtain ⟨r,ca⟩ : ∃ r,y.blocks[k]? = some r:=⟨_,aB (by have:=ae.out;omega)⟩
   obtain ⟨p1,p2,p3,q1,q2,q3,hP⟩:=cw.out k p cg
   obtain ⟨r1,r2,r3,s1,s2,s3,hR⟩:=br.out k r ca
   have ck:=h! cg
   have cl:=h! ca
   have ci:=h! hP
   have cn:=h! hR
   obtain ⟨c,hc⟩ : ∃ c,c=decide (p=r):=⟨_,rfl⟩
   have HC:=h! hc
   have ct:Hid (∀ w4,Below wr.heap.size wr w4 -> Calls Tryz.prog 45 #[.agg #[.slice p1 p.phis.length q1,.slice p2 p.code.length q2,.int .i64 p.term.op,.int .i64 p.term.val,.slice p3 p.term.to.length q3,.int .i64 p.term.n],.agg #[.slice r1 r.phis.length s1,.slice r2 r.code.length s2,.int .i64 r.term.op,.int .i64 r.term.val,.slice r3 r.term.to.length s3,.int .i64 r.term.n]] w4 fun e w'=>e = .returned (.bool c)/\Below w4.heap.size w4 w'):=h! (fun w4 hb=>by
    rw [hc]
    exact rA ((ci.out.blockV.below HW.out).below hb) ((cn.out.blockV.below HW.out).below hb))
   have cv:Hid (p ≠ r -> q=false):=h! (fun h=>by rw [HQ.out];exact decide_eq_false (fun e=>h (by have h9:=ck.out;rw [e,cl.out] at h9;cases h9;rfl)))
   clear cg ca hP hR hc
   go_upto_region 6 with (fail)
   refine wp_region_grow 12 (fun kz=>match kz with | 10=>.const (.bool c) | _=>.plain) (by kernel_rfl) (by kernel_rfl) ?_ (fun ν => ?_)
   ·(intro k;(try dsimp only);split <;> first | exact True.intro | (intro u w1 w2 hu hb;exact hu.below hb))
   simp only [aP,aU,aS,aX]
   iterate 4 (refine Grow.val (v := ?_) rfl rfl (fun wg hbg hdg => ?_) ?_;rotate_left;(focus ((obtain ⟨bi,bm,bj⟩:=B1.out.later hbg);(obtain ⟨bp,bd,be⟩:=B2.out.later hbg);clear hbg hdg;first | (go_simp;done) | (go_simp;with_reducible rfl)));simp only [Act.put,aA,aE,aF])
   refine Grow.val (v := ?_) rfl rfl (fun wg hbg hdg => ?_) ?_
   rotate_left
   focus ((obtain ⟨bi,bm,bj⟩:=B1.out.later hbg);(obtain ⟨bp,bd,be⟩:=B2.out.later hbg);(obtain ⟨m0,m1,m2,m3,m4,m5, -, -, -, -, -, -⟩:=ci.out.below (HW.out.trans (hbg.mono HW.out.size)) cr);clear hbg hdg;first | (go_simp;done) | (go_simp;with_reducible rfl))
   simp only [Act.put,aA,aE,aF]
   iterate 4 (refine Grow.val (v := ?_) rfl rfl (fun wg hbg hdg => ?_) ?_;rotate_left;(focus ((obtain ⟨bi,bm,bj⟩:=B1.out.later hbg);(obtain ⟨bp,bd,be⟩:=B2.out.later hbg);clear hbg hdg;first | (go_simp;done) | (go_simp;with_reducible rfl)));simp only [Act.put,aA,aE,aF])
   refine Grow.val (v := ?_) rfl rfl (fun wg hbg hdg => ?_) ?_
   rotate_left
   focus ((obtain ⟨bi,bm,bj⟩:=B1.out.later hbg);(obtain ⟨bp,bd,be⟩:=B2.out.later hbg);(obtain ⟨m0,m1,m2,m3,m4,m5, -, -, -, -, -, -⟩:=cn.out.below (HW.out.trans (hbg.mono HW.out.size)) bO);clear hbg hdg;first | (go_simp;done) | (go_simp;with_reducible rfl))
   simp only [Act.put,aA,aE,aF]
   refine Grow.call (f := ?_) (args := ?_) rfl (fun wg => ?_) (fun wg hbg hdg => ?_) ?_
   rotate_left 2
   focus (first | (go_simp;done) | (go_simp;refine And.intro ?_ ?_ <;> with_reducible rfl) | (go_simp;with_reducible rfl))
   focus exact Calls.mono (ct.out wg hbg) (fun e w2 ⟨he,bq⟩=>⟨_,he,rfl,bq⟩)
   simp only [Act.put,Known.val,aA,aE,aF]
   refine Grow.val (v := ?_) rfl rfl (fun wg hbg hdg => ?_) ?_
   rotate_left
   focus ((obtain ⟨bi,bm,bj⟩:=B1.out.later hbg);(obtain ⟨bp,bd,be⟩:=B2.out.later hbg);clear hbg hdg;first | (go_simp;done) | (go_simp;with_reducible rfl))
   simp only [Act.put,aA,aE,aF]
   intro wg hb hf cs
   clear cs
   clear aj ai am aq ao aw
   replace B1:=h! (B1.out.later hb)
   replace B2:=h! (B2.out.later hb)
   replace HW:=h! (HW.out.trans (hb.mono HW.out.size))
   clear hb
   obtain ⟨aj,ai,am⟩:=B1.out
   obtain ⟨aq,ao,aw⟩:=B2.out
   clear hf
   cases c
   ·have aa:q=false:=cv.out (by have:=HC.out;simpa using this)
    subst aa
    go_wp2
    go_ret
    exact ⟨rfl,HW.out⟩
   have cB:Hid (p=r):=h! (by have:=HC.out;simpa using this)
   go_wp2
   go_roundw
   case rel =>
    refine ⟨k+1,hlt,by go_num,HW.out,B1.out,B2.out,fun j hj => ?_⟩
    by_cases e:j=k
    ·subst e;rw [ck.out,cl.out,cB.out]
    exact HS.out j (by omega)
   simp [intOf];omega
  have cz:q=true:=by rw [HQ.out];exact decide_eq_true (aDT bw.out.1 bw.out.2.1 bw.out.2.2 (oG cd.out ae.out (fun j hj=>HS.out j (by omega))))
  subst cz
  go_wp2
  go_ret
  exact ⟨rfl,HW.out⟩
theorem fP.later {W W' : World} {v:Value} {f:FuncD} (h:fP W v f) (hb:Below W.heap.size W W'):fP W' v f:=h.below hb
theorem fP.alloc {W:World} {v:Value} {f:FuncD} (h:fP W v f) (o:Obj):fP (W.alloc o) v f:=h.below ((Below.refl _ _).alloc (aC _) o)
theorem wJ {f:FuncD} {b:Int} (h:gD f b 0):gD f 0 0:=by
 have h0:=h
 unfold gD at h
 rcases h with ⟨c, -, -, -, -,h⟩ | ⟨h1,⟨c,x, -, -, -, -,h⟩ | ⟨h2,⟨i,u, -, -, -, -,h⟩ | ⟨h3,rfl, -⟩⟩⟩
 ·cases h
 ·cases h
 ·cases h
 exact h0
def mapP (g:Int -> Int) (p:PhiD):PhiD := { p with vals:=p.vals.map g }
def mapX (g:Int -> Int) (x:InstrD):InstrD := { x with args:=x.args.map g }
def mapT (g:Int -> Int) (t:TermD):TermD:=if t.op=2 \/ t.op=3 then { t with val:=g t.val } else t
def mapB (g:Int -> Int) (x:BlockD):BlockD:=⟨x.phis.map (mapP g),x.code.map (mapX g),mapT g x.term⟩
def SErr (f:FuncD) (k:Int):Prop:=(eV f ≠ 0/\k=eV f) \/ (eV f=0 /\ ∃ b,gD f b k)
theorem SErr.one {f:FuncD} {k k' : Int} (h:SErr f k) (h' : SErr f k'):k=k':=by
 rcases h with ⟨h1,rfl⟩ | ⟨h1,b,h2⟩
 ·rcases h' with ⟨_,rfl⟩ | ⟨h3,_⟩
  ·rfl
  exact absurd h3 h1
 rcases h' with ⟨h3,_⟩ | ⟨_,b',h4⟩
 ·exact absurd h1 h3
 exact (sO h2 h4).2
theorem SErr.of_check {f:FuncD} {b k:Int} (h1:eV f ≠ 0 -> b=0/\k=eV f) (h2:eV f=0 -> gD f b k):SErr f k:=by
 by_cases h:eV f=0
 ·exact .inr ⟨h,b,h2 h⟩
 exact .inl ⟨h,(h1 h).2⟩
theorem SErr.zero {f:FuncD} (h:SErr f 0):eV f=0/\gD f 0 0:=by
 rcases h with ⟨h1,h2⟩ | ⟨h1,b,h2⟩
 ·exact absurd h2.symm h1
 exact ⟨h1,wJ h2⟩
def gP {α : Type} (g : α -> α) (xs:List α) (i:Nat):List α := (xs.take i).map g ++ xs.drop i
theorem oK {α : Type} (g : α -> α) (xs:List α) (i q:Nat):(gP g xs i)[q]? = if q < i then (xs[q]?).map g else xs[q]?:=by
 unfold gP
 rw [cR]
 simp only [bI,aV]
 by_cases h:q < i
 ·rw [if_pos h]
  by_cases h2:q < xs.length
  ·rw [if_pos (by omega),aO,aW,if_pos h]
  rw [if_neg (by omega),bK,aT (by omega),aT (by omega)];rfl
 rw [if_neg h,if_neg (by omega),bK]
 by_cases h2:i <= xs.length
 ·rw [show i+(q - min i xs.length)=q by omega]
 rw [aT (by omega),aT (by omega)]
theorem gS {α : Type} (g : α -> α) (xs:List α):gP g xs 0=xs:=by simp [gP]
theorem fD {α : Type} (g : α -> α) (xs:List α) (i:Nat):(gP g xs i).length=xs.length:=by unfold gP;rw [aI,bI,aV,dA];omega
theorem iE {α : Type} (g : α -> α) (xs:List α):gP g xs xs.length=xs.map g:=by unfold gP;rw [cV,List.drop_length,bY]
theorem iB {α : Type} (g : α -> α) (xs:List α) (i:Nat):(gP g xs i)[i]? = xs[i]?:=by rw [oK,if_neg (Nat.lt_irrefl _)]
theorem hJ {α : Type} {g : α -> α} {xs:List α} {i:Nat} {x : α} (h:xs[i]? = some x):(gP g xs i).set i (g x)=gP g xs (i+1):=by
 apply bG
 intro q
 rw [cA,fD,oK,oK]
 have hl:=(aD.1 h).1
 by_cases e:i=q
 ·subst e
  rw [if_pos rfl,if_pos hl,if_pos (by omega),h];rfl
 rw [if_neg e]
 by_cases h2:q < i
 ·rw [if_pos h2,if_pos (by omega)]
 rw [if_neg h2,if_neg (by omega)]
theorem fV.vals {W:World} {S:Foot} {v:Value} {ps:List PhiD} (h:fV W S v ps) {j:Nat} {p:PhiD} (hj:ps[j]? = some p) :
  ∃ (g cap:Nat) (af av:Option Addr) (cf cv:Nat) (Sv:Foot),v = .slice (some ⟨g,0,none⟩) ps.length cap/\g < W.heap.size/\S g/\PhiC W g (j * 4) p af av cf cv/\(∀ o,W.frozen? ⟨g,o,none⟩=false) /\
   eR W Sv (.slice av p.vals.length cv) p.vals/\(∀ k,Sv k -> S k) /\ ¬ Sv g /\
   (∀ (W' : World) (vals:List Int),Off Sv W W' -> eR W' Sv (.slice av p.vals.length cv) vals -> fV W' S v (ps.set j { p with vals:=vals })):=by
 obtain ⟨cs,G,F,hp⟩:=h
 have ad:=(aD.1 hj).1
 obtain ⟨g,cap,hv,hG, -, -,ai,aa,aj⟩:=hp.row.addr (by omega)
 obtain ⟨⟨a,b,Sf,Sv,ag,h1,h2,ac,i1,i2⟩,hFl,q1,q2⟩:=hp.el j p hj
 obtain ⟨af,cf,rfl⟩:=h1.ints.form
 obtain ⟨av,cv,rfl⟩:=h2.ints.form
 have hc:∀ o u,o < 4 -> (iP cs 4 j)[o]? = some u -> W.cell? ⟨g,j * 4+o,none⟩=some u:=fun o u ho hu=>aa _ _ (by rw [<-jL ho];exact hu)
 rw [ag] at hc
 have nG:∀ k,F j k -> ¬ G k:=hp.free j ad
 have ab:∀ k,F j k -> S k:=fun k hk=>hp.inF j k ad hk
 refine ⟨g,cap,af,av,cf,cv,Sv,hv,ai,hp.inG g hG,⟨hc 0 _ (by omega) rfl,hc 1 _ (by omega) rfl,hc 2 _ (by omega) rfl,hc 3 _ (by omega) rfl,h1.ints,h2.ints,q1,q2⟩,aj,h2,fun k hk=>ab k (i2 k hk),fun hk=>nG g (i2 g hk) hG,fun W' vals ho ha => ?_⟩
 have ah:Off (G.or (F j)) W W':=ho.mono fun k _ hk=>.inr (i2 k hk)
 have ae:∀ k,S k -> k < W'.heap.size:=fun k hk=>aR (hp.lt k hk) ho.size
 refine ⟨cs,G,_,hp.put OPhi.nice hj { p with vals:=vals } (Fj:=F j) ah (hp.row.off ho fun k h1 h2=>nG k (i2 k h2) h1) (fun _ _ _=>rfl) ?_ (fun k hk=>.inl hk) S (fun k hk=>hk) (fun k hk=>ab k hk) ae⟩
 rw [ag]
 exact ⟨⟨_,_,Sf,Sv,rfl,h1.off ho ac,ha,ac,i1,i2⟩,fun k hk=>ae k (ab k hk),q1,q2⟩
theorem gX.open {W:World} {S:Foot} {v:Value} {ys:List InstrD} (h:gX W S v ys) {j:Nat} {y:InstrD} (hj:ys[j]? = some y) :
  ∃ (g cap:Nat) (aa:Option Addr) (ca:Nat) (Sa:Foot),v = .slice (some ⟨g,0,none⟩) ys.length cap/\g < W.heap.size/\S g/\InstrC W g (j * 4) y aa ca/\(∀ o,W.frozen? ⟨g,o,none⟩=false) /\
   eR W Sa (.slice aa y.args.length ca) y.args/\(∀ k,Sa k -> S k) /\ ¬ Sa g /\
   (∀ (W' : World) (args:List Int),Off Sa W W' -> eR W' Sa (.slice aa y.args.length ca) args -> gX W' S v (ys.set j { y with args:=args })):=by
 obtain ⟨cs,G,F,hp⟩:=h
 have ac:=(aD.1 hj).1
 obtain ⟨g,cap,hv,hG, -, -,ah,ab,ai⟩:=hp.row.addr (by omega)
 obtain ⟨⟨a,ad,h1⟩,q1,q2,q3⟩:=hp.el j y hj
 obtain ⟨aa,ca,rfl⟩:=h1.ints.form
 have hc:∀ o u,o < 4 -> (iP cs 4 j)[o]? = some u -> W.cell? ⟨g,j * 4+o,none⟩=some u:=fun o u ho hu=>ab _ _ (by rw [<-jL ho];exact hu)
 rw [ad] at hc
 have nG:∀ k,F j k -> ¬ G k:=hp.free j ac
 have ae:∀ k,F j k -> S k:=fun k hk=>hp.inF j k ac hk
 refine ⟨g,cap,aa,ca,F j,hv,ah,hp.inG g hG,⟨hc 0 _ (by omega) rfl,hc 1 _ (by omega) rfl,hc 2 _ (by omega) rfl,hc 3 _ (by omega) rfl,h1.ints,q1,q2,q3⟩,ai,h1,ae,fun hk=>nG g hk hG,fun W' args ho ha => ?_⟩
 have ag:Off (G.or (F j)) W W':=ho.mono fun k _ hk=>.inr hk
 have af:∀ k,S k -> k < W'.heap.size:=fun k hk=>aR (hp.lt k hk) ho.size
 refine ⟨cs,G,_,hp.put OInstr.nice hj { y with args:=args } (Fj:=F j) ag (hp.row.off ho fun k h1 h2=>nG k h2 h1) (fun _ _ _=>rfl) ?_ (fun k hk=>.inl hk) S (fun k hk=>hk) ae af⟩
 rw [ad]
 exact ⟨⟨_,rfl,ha⟩,q1,q2,q3⟩
theorem eX.opened {W:World} {S:Foot} {v:Value} {xs:List BlockD} (h:eX W S v xs) {j:Nat} {x:BlockD} (hj:xs[j]? = some x) :
  ∃ (g cap:Nat) (ap ai at_:Option Addr) (cp ci ct:Nat) (S1 S2:Foot),v = .slice (some ⟨g,0,none⟩) xs.length cap/\g < W.heap.size/\S g/\BlockC W g (j * 6) x ap ai at_ cp ci ct/\(∀ o,W.frozen? ⟨g,o,none⟩=false) /\
   fV W S1 (.slice ap x.phis.length cp) x.phis/\gX W S2 (.slice ai x.code.length ci) x.code/\(∀ k,S1 k -> S k)/\(∀ k,S2 k -> S k)/\S1.off S2 /\ ¬ S1 g /\ ¬ S2 g /\
   (∀ (W' : World) (ps:List PhiD) (ys:List InstrD),Off (S1.or S2) W W' -> fV W' S1 (.slice ap x.phis.length cp) ps -> gX W' S2 (.slice ai x.code.length ci) ys -> eX W' S v (xs.set j { x with phis:=ps,code:=ys })):=by
 obtain ⟨cs,G,F,hp⟩:=h
 have af:=(aD.1 hj).1
 obtain ⟨g,cap,hv,hG, -, -,al,aa,am⟩:=hp.row.addr (by omega)
 obtain ⟨⟨pv,uv,t,S1,S2,S3,ah,h1,h2,h3,ae,aj,ad,i1,i2,i3⟩,hFl⟩:=hp.el j x hj
 obtain ⟨⟨tv,rfl,ac⟩,q1,q2,q3⟩:=h3
 obtain ⟨ap,cp,rfl⟩:=(h1.reads (R0:=PhiR) fun _ _ _ h=>h.reads).form
 obtain ⟨ai,ci,rfl⟩:=(h2.reads (R0:=gZ) fun _ _ _ h=>h.reads).form
 obtain ⟨at_,ct,rfl⟩:=ac.ints.form
 have hc:∀ o u,o < 6 -> (iP cs 6 j)[o]? = some u -> W.cell? ⟨g,j * 6+o,none⟩=some u:=fun o u ho hu=>aa _ _ (by rw [<-jL ho];exact hu)
 rw [ah] at hc
 have nG:∀ k,F j k -> ¬ G k:=hp.free j af
 have ab:∀ k,F j k -> S k:=fun k hk=>hp.inF j k af hk
 refine ⟨g,cap,ap,ai,at_,cp,ci,ct,S1,S2,hv,al,hp.inG g hG,⟨hc 0 _ (by omega) rfl,hc 1 _ (by omega) rfl,hc 2 _ (by omega) rfl,hc 3 _ (by omega) rfl,hc 4 _ (by omega) rfl,hc 5 _ (by omega) rfl,h1.reads fun _ _ _ h=>h.reads,h2.reads fun _ _ _ h=>h.reads,ac.ints,q1,q2,q3⟩,am,h1,h2,
  fun k hk=>ab k (i1 k hk),fun k hk=>ab k (i2 k hk),ae,fun h=>nG g (i1 g h) hG,fun h=>nG g (i2 g h) hG,fun W' ps ys ho hps hys => ?_⟩
 have ak:Off (G.or (F j)) W W':=ho.mono fun k _ hk=>.inr (hk.elim (i1 k) (i2 k))
 have ag:∀ k,S k -> k < W'.heap.size:=fun k hk=>aR (hp.lt k hk) ho.size
 refine ⟨cs,G,_,hp.put OBlock.nice hj { x with phis:=ps,code:=ys } (Fj:=F j) ak (hp.row.off ho fun k h1 h2=>nG k (h2.elim (i1 k) (i2 k)) h1) (fun _ _ _=>rfl) ?_ (fun k hk=>.inl hk) S (fun k hk=>hk) ab ag⟩
 rw [ah]
 exact ⟨⟨_,_,_,S1,S2,S3,rfl,hps,hys,⟨⟨_,rfl,ac.off ho fun k a b=>b.elim (fun c=>aj k c a) (fun c=>ad k c a)⟩,q1,q2,q3⟩,ae,aj,ad,i1,i2,i3⟩,fun k hk=>ag k (ab k hk)⟩
theorem eX.val {W:World} {S:Foot} {v:Value} {xs:List BlockD} (h:eX W S v xs) {j:Nat} {x:BlockD} (hj:xs[j]? = some x) {g cap:Nat} (hv:v = .slice (some ⟨g,0,none⟩) xs.length cap) {y:Int} (hy:In64 y) :
  eX (W.setCell ⟨g,j * 6+3,none⟩ (.int .i64 y)) S v (xs.set j { x with term := { x.term with val:=y } }):=by
 obtain ⟨cs,G,F,hp⟩:=h
 have ae:=(aD.1 hj).1
 have hn:0 < xs.length:=by omega
 have hG:G g:=by
  obtain ⟨g',cap',ad,am, -⟩:=hp.row.addr hn
  rw [hv] at ad;cases ad;exact am
 have ai:=hp.el j x hj
 obtain ⟨⟨pv,uv,t,S1,S2,S3,ah,h1,h2,h3,ag,al,af,i1,i2,i3⟩,ak⟩:=ai
 obtain ⟨⟨tv,rfl,aj⟩,q1,q2,q3⟩:=h3
 have aa:=Off.set W ⟨g,j * 6+3,none⟩ (.int .i64 y)
 have ac:∀ k,F j k -> k ≠ g:=fun k hk e=>hp.free j ae k hk (by rw [e];exact hG)
 have ab:OBlock (W.setCell ⟨g,j * 6+3,none⟩ (.int .i64 y)) (F j) (iP (cs.set (j * 6+3) (.int .i64 y)) 6 j) { x with term := { x.term with val:=y } }:=by
  rw [fA (by omega),ah]
  exact ⟨⟨pv,uv,_,S1,S2,S3,rfl,h1.off OPhi.nice aa (fun k hk e=>ac k (i1 k hk) e),h2.off OInstr.nice aa (fun k hk e=>ac k (i2 k hk) e),⟨⟨tv,rfl,aj.off aa (fun k hk e=>ac k (i3 k hk) e)⟩,q1,hy,q3⟩,ag,al,af,i1,i2,i3⟩,fun k hk=>by simpa [World.setCell] using ak k hk⟩
 exact ⟨_,G,_,hp.put OBlock.nice hj _ (Fj:=F j) (aa.mono fun k _ hk=>by cases hk;exact .inl hG) (hp.row.set hv (by omega) (j * 6+3) _) (fun q hq hne=>gL hne (by omega)) ab (fun k hk=>.inl hk) S (fun k hk=>hk) (fun k hk=>hp.inF j k ae hk) (fun k hk=>by simpa [World.setCell] using hp.lt k hk)⟩
theorem zG (g:Int -> Int) (x:BlockD):mapB g x = { x with phis:=x.phis.map (mapP g),code:=x.code.map (mapX g),term:=mapT g x.term }:=rfl
end
end Go.Proofs.YtagabiidbbhhmaaGreat
