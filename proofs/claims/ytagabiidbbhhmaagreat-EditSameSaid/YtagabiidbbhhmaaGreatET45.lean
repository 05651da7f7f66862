/- Part 45. -/
import Derived.Test.YtagabiidbbhhmaaGreatET44
import Derived.Test.YtagabiidbbhhmaaGreatET33
namespace Go.Proofs.YtagabiidbbhhmaaGreat
set_option linter.all false
set_option maxRecDepth 100000
open Go.RowKit
theorem Off.frozen{S:Foot}{W W':World}(h:Off S W W'){b o:Nat}(hl:b<W.heap.size)(hn:¬S b):W'.frozen? ⟨b,o,none⟩=W.frozen? ⟨b,o,none⟩:=World.frozen?_of_block (w:=W) (a:=⟨b,o,none⟩) (h.block b hl hn)
theorem sK{w:World}{ops:Array Oper}{rest:List Oper}{o:Oper}{a:Act}{Q:Exit->Act->World->Prop}(hgd:o.guard=none)(s x:Operand)
  (ho:o.op=.call { callee:=.builtin .append,args:=#[s,x],argTypes:=#[22,22] }) {v:Value} {B:Nat} {y:Int} (hs:a.eval s=v) (hx:a.eval x=.slice (some ⟨B,0,none⟩) 1 1) {S:Foot} {xs:List Int} {n:Nat} (hn:xs.length=n)
  (H:fP w S v xs) (hB:Box w B #[.int .i64 y]) (hy:In64 y) (hlen:n+1<=100000)
  (hK:∀g cap w',fP w' (Foot.one g) (.slice (some ⟨g,0,none⟩) (n+1) cap) (xs++[y])->(S g\/w.heap.size<=g)->Off S w w'->wpList Tryz.prog ops Q rest (a.put o.dst (.slice (some ⟨g,0,none⟩) (n+1) cap)) w'):wpList Tryz.prog ops Q (o :: rest) a w:=by
 refine oZ (P:=Tryz.prog) hgd s x 22 3 ho oW hs hx H.1 (uE (n:=1) (size:=1) (ds:=[.int .i64 y]) hB rfl (by omega)) (by intro u hu;simp at hu;subst hu;rfl) (by omega) (by omega) fun v' w' G' r1 r2 r3=> ?_;have hO:fP w' G' v' (xs++[y]):=by
  refine⟨?_,fun z hz=> ?_⟩
  ·rw[aO,bG];exact r1
  rcases aJ.1 hz with h|h
  ·exact H.2 z h
  simp at h;subst h;exact hy
 obtain⟨g,cap,rfl,hg,-⟩:=hO.1.addr (by simp);have hl:(xs++[y]).length=n+1:=by simp[hn]
 rw[hl]at hO⊢;obtain⟨k1,k2⟩:=hO.narrow (by omega);exact hK g cap w' k1 (r2 g k2) r3
theorem aK0{x y:FuncD}(h1:x.params=y.params)(h2:x.arrays=y.arrays)(h3:x.cells=y.cells)(h4:x.blocks=y.blocks):x=y:=by obtain⟨a,b,c,d⟩:=x;obtain⟨a',b',c',d'⟩:=y;simp only at h1 h2 h3 h4;subst h1 h2 h3 h4;rfl
set_option maxHeartbeats 25600000 in
theorem aFQ{w:World}{v u:Value}{x y:FuncD}(hv:gS w v x)(hu:gS w u y):
  Calls Tryz.prog 14 #[v,u] w fun e w'=>e=.returned (.bool (decide (x=y)))/\Below w.heap.size w w':=by
 obtain⟨ap,cp,ab,cb,rfl,hp,-,-,hB⟩:=hv.form;obtain⟨bj,bl,bn,bc,rfl,cg,-,-,cq⟩:=hu.form;obtain⟨a',c',bb,bo,bv,cx,hbm,-,cf,cl⟩:=fW hB
 cases bv;obtain⟨a',c',bb2,bo2,bv,ch,hbm2,-,af,ax⟩:=fW cq
 cases bv;obtain⟨np,bz⟩:∃n,n=x.params.length:=⟨_,rfl⟩;obtain⟨nb,bf⟩:∃n,n=x.blocks.length:=⟨_,rfl⟩;obtain⟨ar,cd⟩:∃n,n=x.arrays:=⟨_,rfl⟩;obtain⟨ce,br⟩:∃n,n=x.cells:=⟨_,rfl⟩;obtain⟨bh,ag⟩:∃n,n=y.params.length:=⟨_,rfl⟩;obtain⟨nb2,aa⟩:∃n,n=y.blocks.length:=⟨_,rfl⟩;obtain⟨am,ad⟩:∃n,n=y.arrays:=⟨_,rfl⟩;obtain⟨ao,ah⟩:∃n,n=y.cells:=⟨_,rfl⟩;obtain⟨q,hq⟩:∃q,q=decide (x=y):=⟨_,rfl⟩;rw[<-hq,<-bz,<-bf,<-cd,<-br,<-ag,<-aa,<-ad,<-ah];rw[<-bf]at cx cf;rw[<-aa]at ch af;rw[<-bz]at hp;rw[<-ag]at cg;have HQ:=h! hq;have bw:=h! bf;have ae:=h! aa;have ay:=h! (And.intro cd ad);have az:=h! (And.intro br ah);have HP:=h! hp;have cn:=h! cg;have cB:=h! cf;have cr:=h! cl;have bO:=h! af;have cc:=h! ax;clear hp cg hB cq hq bz bf cd br ag aa ad ah cf cl af ax hv hu;go_enter Tryz.func14,Tryz.ntmps14;go_upto_region 1 with(fail);have aw:=(Below.refl w.heap.size w).alloc (aC _) (.cells #[.slice ap np cp,.int .i64 ar,.int .i64 ce,.slice ab nb cb] 25);have HW:=h! aw;clear aw;have B1:=h! (Box.new w #[.slice ap np cp,.int .i64 ar,.int .i64 ce,.slice ab nb cb] 25);have ba:(w.alloc (.cells #[.slice ap np cp,.int .i64 ar,.int .i64 ce,.slice ab nb cb] 25)).heap.size=w.heap.size+1:=World.size_alloc _ _;generalize w.alloc (.cells #[.slice ap np cp,.int .i64 ar,.int .i64 ce,.slice ab nb cb] 25)=bm at*;have aw:=(Below.refl bm.heap.size bm).alloc (aC _) (.cells #[.slice bj bh bl,.int .i64 am,.int .i64 ao,.slice bn nb2 bc] 25);replace B1:=h! (B1.later aw);replace HW:=w! HW aw;clear aw;have B2:=h! (Box.new bm #[.slice bj bh bl,.int .i64 am,.int .i64 ao,.slice bn nb2 bc] 25);rw[ba]at B2;clear ba;generalize bm.alloc (.cells #[.slice bj bh bl,.int .i64 am,.int .i64 ao,.slice bn nb2 bc] 25)=wv at*;obtain⟨al,ai,aq⟩:=B1.out;obtain⟨aj,an,ak⟩:=B2.out
 cases h1:(ar != am);rotate_left
 ·skip;have ac:q=false:=by rw[HQ.out];exact decide_eq_false (fun e=>(by have h9:ar≠am:=(by simpa using h1);exact h9 (by rw[ay.1,ay.2,e])))
  subst ac;go_wp2;go_ret;exact⟨rfl,HW.out⟩
 cases h2:(ce != ao);rotate_left
 ·skip;have ac:q=false:=by rw[HQ.out];exact decide_eq_false (fun e=>(by have h9:ce≠ao:=(by simpa using h2);exact h9 (by rw[az.1,az.2,e])))
  subst ac;go_wp2;go_ret;exact⟨rfl,HW.out⟩
 go_wp2_with fail;refine(aCP (HP.below HW.out) (cn.below HW.out)).mono ?_;rintro e w2 ⟨rfl,hb⟩;obtain⟨c,hc⟩:∃c,c=decide (x.params=y.params):=⟨_,rfl⟩;rw[<-hc];have HC:=h! hc;clear hc;clear al ai aq aj an ak;replace B1:=h! (B1.later hb);replace B2:=h! (B2.later hb);replace HW:=w! HW hb;clear hb;obtain⟨al,ai,aq⟩:=B1.out;obtain⟨aj,an,ak⟩:=B2.out
 cases c
 ·skip;have ac:q=false:=by rw[HQ.out];exact decide_eq_false (fun e=>(by have h9:=HC.out;simp[e]at h9))
  subst ac;go_wp2;go_ret;exact⟨rfl,HW.out⟩
 cases h3:((nb:Int) != (nb2:Int));rotate_left
 ·skip;have ac:q=false:=by rw[HQ.out];exact decide_eq_false (fun e=>(by have h9:nb≠nb2:=(by simp at h3;omega);exact h9 (by rw[bw.out,ae.out,e])))
  subst ac;go_wp2;go_ret;exact⟨rfl,HW.out⟩
 have bs:Hid (x.params=y.params/\x.arrays=y.arrays/\x.cells=y.cells):=h! ⟨by simpa using HC.symm,by rw[<-ay.1,<-ay.2];simpa using h1,by rw[<-az.1,<-az.2];simpa using h2⟩;obtain rfl:nb=nb2:=by simp at h3;omega
 clear HC ay az HP cn;go_wp2_with fail;clear h1 h2 h3;go_loopw [5] (fun i wr=>∃k:Nat,k<=nb/\i=.int .i64 k/\Below w.heap.size w wr/\Box wr w.heap.size #[.slice ap np cp,.int .i64 ar,.int .i64 ce,.slice ab nb cb]/\Box wr (w.heap.size+1) #[.slice bj bh bl,.int .i64 am,.int .i64 ao,.slice bn nb bc]/\∀j,j<k->x.blocks[j]? =y.blocks[j]?) (fun i _=>nb - (intOf i).toNat)
 case atStart=>exact⟨0,aL _,rfl,HW.out,B1.out,B2.out,fun j h=>absurd h (eT _)⟩
 case round=>
  obtain⟨k,hk,rfl,hW,cm,be,hs⟩:=hrel;clear al ai aq aj an ak;replace HW:=h! hW;replace B1:=h! cm;replace B2:=h! be;have HS:=h! hs;clear hW cm be hs;obtain⟨al,ai,aq⟩:=B1.out;obtain⟨aj,an,ak⟩:=B2.out;by_cases hlt:k<nb
  ·obtain⟨rfl,ct⟩:=cB.out (by omega);obtain⟨rfl,bx⟩:=bO.out (by omega);obtain⟨p,bt⟩:∃p,x.blocks[k]? =some p:=⟨_,aA (by have:=bw.out;omega)⟩;obtain⟨r,ca⟩:∃r,y.blocks[k]? =some r:=⟨_,aA (by have:=ae.out;omega)⟩;obtain⟨p1,p2,p3,q1,q2,q3,hP⟩:=cr.out k p bt;obtain⟨r1,r2,r3,s1,s2,s3,hR⟩:=cc.out k r ca;have co:=h! bt;have cj:=h! ca;have ck:=h! hP;have ci:=h! hR;obtain⟨c,hc⟩:∃c,c=decide (p=r):=⟨_,rfl⟩;have HC:=h! hc;have cw:Hid (∀w4,Below wr.heap.size wr w4->Calls Tryz.prog 45 #[.agg #[.slice p1 p.phis.length q1,.slice p2 p.code.length q2,.int .i64 p.term.op,.int .i64 p.term.val,.slice p3 p.term.to.length q3,.int .i64 p.term.n],.agg #[.slice r1 r.phis.length s1,.slice r2 r.code.length s2,.int .i64 r.term.op,.int .i64 r.term.val,.slice r3 r.term.to.length s3,.int .i64 r.term.n]] w4 fun e w'=>e=.returned (.bool c)/\Below w4.heap.size w4 w'):=h! (fun w4 hb=>by rw[hc];exact vR ((ck.blockV.below HW.out).below hb) ((ci.blockV.below HW.out).below hb));have cv:Hid (p≠r->q=false):=h! (fun h=>by rw[HQ.out];exact decide_eq_false (fun e=>h (by have h9:=co.out;rw[e,cj.out]at h9;cases h9;rfl)));clear bt ca hP hR hc;go_upto_region 6 with(fail);refine wp_region_grow 12 (fun kz=>match kz with|10=>.const (.bool c)|_=>.plain) (by kernel_rfl) (by kernel_rfl) ?_ (fun ν=> ?_)
   ·(intro k;(try dsimp only);split<;>first|exact True.intro|(intro u w1 w2 hu hb;exact hu.below hb))
   simp only[aP,aU,aR,aV];iterate 4 (refine Grow.val (v:= ?_) rfl rfl (fun wg hbg hdg=> ?_) ?_;rotate_left;(focus((obtain⟨bp,bk,bq⟩:=B1.later hbg);(obtain⟨bg,bi,bd⟩:=B2.later hbg);clear hbg hdg;first|(go_simp;done)|(go_simp;with_reducible rfl)));simp only[Act.put,aB,aE,aF])
   refine Grow.val (v:= ?_) rfl rfl (fun wg hbg hdg=> ?_) ?_;rotate_left;focus((obtain⟨bp,bk,bq⟩:=B1.later hbg);(obtain⟨bg,bi,bd⟩:=B2.later hbg);(obtain⟨m0,m1,m2,m3,m4,m5,-,-,-,-,-,-⟩:=ck.below (w! HW hbg) ct);clear hbg hdg;first|(go_simp;done)|(go_simp;with_reducible rfl))
   simp only[Act.put,aB,aE,aF];iterate 4 (refine Grow.val (v:= ?_) rfl rfl (fun wg hbg hdg=> ?_) ?_;rotate_left;(focus((obtain⟨bp,bk,bq⟩:=B1.later hbg);(obtain⟨bg,bi,bd⟩:=B2.later hbg);clear hbg hdg;first|(go_simp;done)|(go_simp;with_reducible rfl)));simp only[Act.put,aB,aE,aF])
   refine Grow.val (v:= ?_) rfl rfl (fun wg hbg hdg=> ?_) ?_;rotate_left;focus((obtain⟨bp,bk,bq⟩:=B1.later hbg);(obtain⟨bg,bi,bd⟩:=B2.later hbg);(obtain⟨m0,m1,m2,m3,m4,m5,-,-,-,-,-,-⟩:=ci.below (w! HW hbg) bx);clear hbg hdg;first|(go_simp;done)|(go_simp;with_reducible rfl))
   simp only[Act.put,aB,aE,aF];refine Grow.call (f:= ?_) (args:= ?_) rfl (fun wg=> ?_) (fun wg hbg hdg=> ?_) ?_;rotate_left 2;focus(first|(go_simp;done)|(go_simp;refine And.intro ?_ ?_<;>with_reducible rfl)|(go_simp;with_reducible rfl))
   focus exact Calls.mono (cw wg hbg) (fun e w2 ⟨he,be⟩=>⟨_,he,rfl,be⟩)
   simp only[Act.put,Known.val,aB,aE,aF];refine Grow.val (v:= ?_) rfl rfl (fun wg hbg hdg=> ?_) ?_;rotate_left;focus((obtain⟨bp,bk,bq⟩:=B1.later hbg);(obtain⟨bg,bi,bd⟩:=B2.later hbg);clear hbg hdg;first|(go_simp;done)|(go_simp;with_reducible rfl))
   simp only[Act.put,aB,aE,aF];intro wg hb hf cy;clear cy;clear al ai aq aj an ak;replace B1:=h! (B1.later hb);replace B2:=h! (B2.later hb);replace HW:=w! HW hb;clear hb;obtain⟨al,ai,aq⟩:=B1.out;obtain⟨aj,an,ak⟩:=B2.out;clear hf
   cases c
   ·have ac:q=false:=cv.out (by have:=HC.out;simpa using this);subst ac;go_wp2;go_ret;exact⟨rfl,HW.out⟩
   have cs:Hid (p=r):=h! (by have:=HC.out;simpa using this);go_wp2;go_roundw
   case rel=>
    refine⟨k+1,hlt,by go_num,HW.out,B1.out,B2.out,fun j hj=> ?_⟩;by_cases e:j=k
    ·subst e;rw[co.out,cj.out,cs.out]
    exact HS j (by omega)
   simp[intOf];omega
  have cz:q=true:=by rw[HQ.out];exact decide_eq_true (aK0 bs.1 bs.2.1 bs.2.2 (rP bw.out ae.out (fun j hj=>HS j (by omega))))
  subst cz;go_wp2;go_ret;exact⟨rfl,HW.out⟩
theorem gS.later{W W':World}{v:Value}{f:FuncD}(h:gS W v f)(hb:Below W.heap.size W W'):gS W' v f:=h.below hb
theorem gS.alloc{W:World}{v:Value}{f:FuncD}(h:gS W v f)(o:Obj):gS (W.alloc o) v f:=h.below ((Below.refl _ _).alloc (aC _) o)
theorem aB7{f:FuncD}{b:Int}(h:gE f b 0):gE f 0 0:=by
 have h0:=h;unfold gE at h;rcases h with⟨c,-,-,-,-,h⟩|⟨h1,⟨c,x,-,-,-,-,h⟩|⟨h2,⟨i,u,-,-,-,-,h⟩|⟨h3,rfl,-⟩⟩⟩
 ·cases h
 ·cases h
 ·cases h
 exact h0
def mapP(g:Int->Int)(p:PhiD):PhiD:={ p with vals:=p.vals.map g }
def mapX(g:Int->Int)(x:InstrD):InstrD:={ x with args:=x.args.map g }
def mapT(g:Int->Int)(t:TermD):TermD:=if t.op=2\/t.op=3 then { t with val:=g t.val } else t
def mapB(g:Int->Int)(x:BlockD):BlockD:=⟨x.phis.map (mapP g),x.code.map (mapX g),mapT g x.term⟩
def SErr(f:FuncD)(k:Int):Prop:=(fO f≠0/\k=fO f)\/(fO f=0/\∃b,gE f b k)
theorem SErr.one{f:FuncD}{k k':Int}(h:SErr f k)(h':SErr f k'):k=k':=by
 rcases h with⟨h1,rfl⟩|⟨h1,b,h2⟩
 ·rcases h' with⟨_,rfl⟩|⟨h3,_⟩
  ·rfl
  exact absurd h3 h1
 rcases h' with⟨h3,_⟩|⟨_,b',h4⟩
 ·exact absurd h1 h3
 exact(vL h2 h4).2
theorem SErr.of_check{f:FuncD}{b k:Int}(h1:fO f≠0->b=0/\k=fO f)(h2:fO f=0->gE f b k):SErr f k:=by
 by_cases h:fO f=0
 ·exact .inr ⟨h,b,h2 h⟩
 exact .inl ⟨h,(h1 h).2⟩
theorem SErr.zero{f:FuncD}(h:SErr f 0):fO f=0/\gE f 0 0:=by
 rcases h with⟨h1,h2⟩|⟨h1,b,h2⟩
 ·exact absurd h2.symm h1
 exact⟨h1,aB7 h2⟩
def iU{α:Type}(g:α->α)(xs:List α)(i:Nat):List α:=(xs.take i).map g++xs.drop i
theorem sL{α:Type}(g:α->α)(xs:List α)(i q:Nat):(iU g xs i)[q]? =if q<i then (xs[q]?).map g else xs[q]?:=by
 unfold iU;rw[dF];simp only[aZ,bB];by_cases h:q<i
 ·rw[if_pos h];by_cases h2:q<xs.length
  ·rw[if_pos (by omega),aM,bF,if_pos h]
  rw[if_neg (by omega),bU,aS (by omega),aS (by omega)];rfl
 rw[if_neg h,if_neg (by omega),bU];by_cases h2:i<=xs.length
 ·rw[show i+(q - min i xs.length)=q by omega]
 rw[aS (by omega),aS (by omega)]
theorem iY{α:Type}(g:α->α)(xs:List α):iU g xs 0=xs:=by simp[iU]
theorem gA{α:Type}(g:α->α)(xs:List α)(i:Nat):(iU g xs i).length=xs.length:=by unfold iU;rw[aO,aZ,bB,dH];omega
theorem jN{α:Type}(g:α->α)(xs:List α):iU g xs xs.length=xs.map g:=by unfold iU;rw[cO,List.drop_length,cV]
theorem jI{α:Type}(g:α->α)(xs:List α)(i:Nat):(iU g xs i)[i]? =xs[i]?:=by rw[sL,if_neg (Nat.lt_irrefl _)]
theorem jA{α:Type}{g:α->α}{xs:List α}{i:Nat}{x:α}(h:xs[i]? =some x):(iU g xs i).set i (g x)=iU g xs (i+1):=by
 apply bJ;intro q;rw[cT,gA,sL,sL];have hl:=(aD.1 h).1;by_cases e:i=q
 ·subst e;rw[if_pos rfl,if_pos hl,if_pos (by omega),h];rfl
 rw[if_neg e];by_cases h2:q<i
 ·rw[if_pos h2,if_pos (by omega)]
 rw[if_neg h2,if_neg (by omega)]
theorem iS.vals{W:World}{S:Foot}{v:Value}{ps:List PhiD}(h:iS W S v ps){j:Nat}{p:PhiD}(hj:ps[j]? =some p):
  ∃(g cap:Nat) (af av:Option Addr) (cf cv:Nat) (Sv:Foot),v=.slice (some ⟨g,0,none⟩) ps.length cap/\g<W.heap.size/\S g/\PhiC W g (j*4) p af av cf cv/\(∀o,W.frozen? ⟨g,o,none⟩=false)/\
   fP W Sv (.slice av p.vals.length cv) p.vals/\(∀k,Sv k->S k)/\¬Sv g/\
   (∀(W':World) (vals:List Int),Off Sv W W'->fP W' Sv (.slice av p.vals.length cv) vals->iS W' S v (ps.set j { p with vals:=vals })):=by
 obtain⟨cs,G,F,hp⟩:=h;have ac:=(aD.1 hj).1;obtain⟨g,cap,hv,hG,-,-,ai,aa,ah⟩:=hp.row.addr (by omega);obtain⟨⟨a,b,Sf,Sv,ag,h1,h2,ad,i1,i2⟩,hFl,q1,q2⟩:=hp.el j p hj;obtain⟨af,cf,rfl⟩:=h1.ints.form;obtain⟨av,cv,rfl⟩:=h2.ints.form;have hc:∀o u,o<4->(kI cs 4 j)[o]? =some u->W.cell? ⟨g,j*4+o,none⟩=some u:=fun o u ho hu=>aa _ _ (by rw[<-kR ho];exact hu);rw[ag]at hc;have nG:∀k,F j k->¬G k:=hp.free j ac;have ab:∀k,F j k->S k:=fun k hk=>hp.inF j k ac hk;refine⟨g,cap,af,av,cf,cv,Sv,hv,ai,hp.inG g hG,⟨hc 0 _ (by omega) rfl,hc 1 _ (by omega) rfl,hc 2 _ (by omega) rfl,hc 3 _ (by omega) rfl,h1.ints,h2.ints,q1,q2⟩,ah,h2,fun k hk=>ab k (i2 k hk),fun hk=>nG g (i2 g hk) hG,fun W' vals ho ha=> ?_⟩;have aj:Off (G.or (F j)) W W':=ho.mono fun k _ hk=>.inr (i2 k hk);have ae:∀k,S k->k<W'.heap.size:=fun k hk=>bD (hp.lt k hk) ho.size;refine⟨cs,G,_,hp.put OPhi.nice hj { p with vals:=vals } (Fj:=F j) aj (hp.row.off ho fun k h1 h2=>nG k (i2 k h2) h1) (fun _ _ _=>rfl) ?_ (fun k hk=>.inl hk) S (fun k hk=>hk) (fun k hk=>ab k hk) ae⟩;rw[ag];exact⟨⟨_,_,Sf,Sv,rfl,h1.off ho ad,ha,ad,i1,i2⟩,fun k hk=>ae k (ab k hk),q1,q2⟩
theorem kF.open{W:World}{S:Foot}{v:Value}{ys:List InstrD}(h:kF W S v ys){j:Nat}{y:InstrD}(hj:ys[j]? =some y):
  ∃(g cap:Nat) (aa:Option Addr) (ca:Nat) (Sa:Foot),v=.slice (some ⟨g,0,none⟩) ys.length cap/\g<W.heap.size/\S g/\InstrC W g (j*4) y aa ca/\(∀o,W.frozen? ⟨g,o,none⟩=false)/\
   fP W Sa (.slice aa y.args.length ca) y.args/\(∀k,Sa k->S k)/\¬Sa g/\
   (∀(W':World) (args:List Int),Off Sa W W'->fP W' Sa (.slice aa y.args.length ca) args->kF W' S v (ys.set j { y with args:=args })):=by
 obtain⟨cs,G,F,hp⟩:=h;have ac:=(aD.1 hj).1;obtain⟨g,cap,hv,hG,-,-,ag,ab,af⟩:=hp.row.addr (by omega);obtain⟨⟨a,ae,h1⟩,q1,q2,q3⟩:=hp.el j y hj;obtain⟨aa,ca,rfl⟩:=h1.ints.form;have hc:∀o u,o<4->(kI cs 4 j)[o]? =some u->W.cell? ⟨g,j*4+o,none⟩=some u:=fun o u ho hu=>ab _ _ (by rw[<-kR ho];exact hu);rw[ae]at hc;have nG:∀k,F j k->¬G k:=hp.free j ac;have ad:∀k,F j k->S k:=fun k hk=>hp.inF j k ac hk;refine⟨g,cap,aa,ca,F j,hv,ag,hp.inG g hG,⟨hc 0 _ (by omega) rfl,hc 1 _ (by omega) rfl,hc 2 _ (by omega) rfl,hc 3 _ (by omega) rfl,h1.ints,q1,q2,q3⟩,af,h1,ad,fun hk=>nG g hk hG,fun W' args ho ha=> ?_⟩;have ai:Off (G.or (F j)) W W':=ho.mono fun k _ hk=>.inr hk;have ah:∀k,S k->k<W'.heap.size:=fun k hk=>bD (hp.lt k hk) ho.size;refine⟨cs,G,_,hp.put OInstr.nice hj { y with args:=args } (Fj:=F j) ai (hp.row.off ho fun k h1 h2=>nG k h2 h1) (fun _ _ _=>rfl) ?_ (fun k hk=>.inl hk) S (fun k hk=>hk) ad ah⟩;rw[ae];exact⟨⟨_,rfl,ha⟩,q1,q2,q3⟩
theorem fZ.opened{W:World}{S:Foot}{v:Value}{xs:List BlockD}(h:fZ W S v xs){j:Nat}{x:BlockD}(hj:xs[j]? =some x):
  ∃(g cap:Nat) (ap ai at_:Option Addr) (cp ci ct:Nat) (S1 S2:Foot),v=.slice (some ⟨g,0,none⟩) xs.length cap/\g<W.heap.size/\S g/\BlockC W g (j*6) x ap ai at_ cp ci ct/\(∀o,W.frozen? ⟨g,o,none⟩=false)/\
   iS W S1 (.slice ap x.phis.length cp) x.phis/\kF W S2 (.slice ai x.code.length ci) x.code/\(∀k,S1 k->S k)/\(∀k,S2 k->S k)/\S1.off S2/\¬S1 g/\¬S2 g/\
   (∀(W':World) (ps:List PhiD) (ys:List InstrD),Off (S1.or S2) W W'->iS W' S1 (.slice ap x.phis.length cp) ps->kF W' S2 (.slice ai x.code.length ci) ys->fZ W' S v (xs.set j { x with phis:=ps,code:=ys })):=by
 obtain⟨cs,G,F,hp⟩:=h;have ae:=(aD.1 hj).1;obtain⟨g,cap,hv,hG,-,-,al,aa,ak⟩:=hp.row.addr (by omega);obtain⟨⟨pv,uv,t,S1,S2,S3,aj,h1,h2,h3,ag,ad,af,i1,i2,i3⟩,hFl⟩:=hp.el j x hj;obtain⟨⟨tv,rfl,ac⟩,q1,q2,q3⟩:=h3;obtain⟨ap,cp,rfl⟩:=(h1.reads (R0:=PhiR) fun _ _ _ h=>h.reads).form;obtain⟨ai,ci,rfl⟩:=(h2.reads (R0:=jD) fun _ _ _ h=>h.reads).form;obtain⟨at_,ct,rfl⟩:=ac.ints.form;have hc:∀o u,o<6->(kI cs 6 j)[o]? =some u->W.cell? ⟨g,j*6+o,none⟩=some u:=fun o u ho hu=>aa _ _ (by rw[<-kR ho];exact hu);rw[aj]at hc;have nG:∀k,F j k->¬G k:=hp.free j ae;have ab:∀k,F j k->S k:=fun k hk=>hp.inF j k ae hk;refine⟨g,cap,ap,ai,at_,cp,ci,ct,S1,S2,hv,al,hp.inG g hG,⟨hc 0 _ (by omega) rfl,hc 1 _ (by omega) rfl,hc 2 _ (by omega) rfl,hc 3 _ (by omega) rfl,hc 4 _ (by omega) rfl,hc 5 _ (by omega) rfl,h1.reads fun _ _ _ h=>h.reads,h2.reads fun _ _ _ h=>h.reads,ac.ints,q1,q2,q3⟩,ak,h1,h2,
  fun k hk=>ab k (i1 k hk),fun k hk=>ab k (i2 k hk),ag,fun h=>nG g (i1 g h) hG,fun h=>nG g (i2 g h) hG,fun W' ps ys ho hps hys=> ?_⟩
 have am:Off (G.or (F j)) W W':=ho.mono fun k _ hk=>.inr (hk.elim (i1 k) (i2 k));have ah:∀k,S k->k<W'.heap.size:=fun k hk=>bD (hp.lt k hk) ho.size;refine⟨cs,G,_,hp.put OBlock.nice hj { x with phis:=ps,code:=ys } (Fj:=F j) am (hp.row.off ho fun k h1 h2=>nG k (h2.elim (i1 k) (i2 k)) h1) (fun _ _ _=>rfl) ?_ (fun k hk=>.inl hk) S (fun k hk=>hk) ab ah⟩;rw[aj];exact⟨⟨_,_,_,S1,S2,S3,rfl,hps,hys,⟨⟨_,rfl,ac.off ho fun k a b=>b.elim (fun c=>ad k c a) (fun c=>af k c a)⟩,q1,q2,q3⟩,ag,ad,af,i1,i2,i3⟩,fun k hk=>ah k (ab k hk)⟩
theorem fZ.val{W:World}{S:Foot}{v:Value}{xs:List BlockD}(h:fZ W S v xs){j:Nat}{x:BlockD}(hj:xs[j]? =some x){g cap:Nat}(hv:v=.slice (some ⟨g,0,none⟩) xs.length cap){y:Int}(hy:In64 y):
  fZ (W.setCell ⟨g,j*6+3,none⟩ (.int .i64 y)) S v (xs.set j { x with term:={ x.term with val:=y } }):=by
 obtain⟨cs,G,F,hp⟩:=h;have ae:=(aD.1 hj).1;have hn:0<xs.length:=by omega
 have hG:G g:=by obtain⟨g',cap',ad,af,-⟩:=hp.row.addr hn;rw[hv]at ad;cases ad;exact af
 have al:=hp.el j x hj;obtain⟨⟨pv,uv,t,S1,S2,S3,am,h1,h2,h3,aj,ag,ah,i1,i2,i3⟩,ai⟩:=al;obtain⟨⟨tv,rfl,ak⟩,q1,q2,q3⟩:=h3;have aa:=Off.set W ⟨g,j*6+3,none⟩ (.int .i64 y);have ab:∀k,F j k->k≠g:=fun k hk e=>hp.free j ae k hk (by rw[e];exact hG);have ac:OBlock (W.setCell ⟨g,j*6+3,none⟩ (.int .i64 y)) (F j) (kI (cs.set (j*6+3) (.int .i64 y)) 6 j) { x with term:={ x.term with val:=y } }:=by rw[gI (by omega),am];exact⟨⟨pv,uv,_,S1,S2,S3,rfl,h1.off OPhi.nice aa (fun k hk e=>ab k (i1 k hk) e),h2.off OInstr.nice aa (fun k hk e=>ab k (i2 k hk) e),⟨⟨tv,rfl,ak.off aa (fun k hk e=>ab k (i3 k hk) e)⟩,q1,hy,q3⟩,aj,ag,ah,i1,i2,i3⟩,fun k hk=>by simpa [World.setCell]using ai k hk⟩
 exact⟨_,G,_,hp.put OBlock.nice hj _ (Fj:=F j) (aa.mono fun k _ hk=>by cases hk;exact .inl hG) (hp.row.set hv (by omega) (j*6+3) _) (fun q hq hne=>jM hne (by omega)) ac (fun k hk=>.inl hk) S (fun k hk=>hk) (fun k hk=>hp.inF j k ae hk) (fun k hk=>by simpa [World.setCell]using hp.lt k hk)⟩
theorem aFR(g:Int->Int)(x:BlockD):mapB g x={ x with phis:=x.phis.map (mapP g),code:=x.code.map (mapX g),term:=mapT g x.term }:=rfl
end Go.Proofs.YtagabiidbbhhmaaGreat
