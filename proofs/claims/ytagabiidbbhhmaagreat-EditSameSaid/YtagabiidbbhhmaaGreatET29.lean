/- Part 29. -/
import Derived.WalkSmall
import Derived.Test.YtagabiidbbhhmaaGreatET28
import Derived.Lib.SliceRun
namespace Go.Proofs.YtagabiidbbhhmaaGreat
set_option maxHeartbeats 3200000
set_option linter.all false
set_option maxRecDepth 100000
open Go.RowKit
theorem sA{α:Type}{xs ys:List α}{i:Nat}{x y:α}(h:xs.take i=ys.take i)(hx:xs[i]? =some x)(hy:ys[i]? =some y):xs.take (i+1)=ys.take (i+1)↔x=y:=by rw[fR xs i x hx,fR ys i y hy,h];simp
theorem uI{α:Type}{xs ys:List α}{n:Nat}(h:xs.take n=ys.take n)(hx:xs.length=n)(hy:ys.length=n):xs=ys:=by rw[aI (by omega),aI (by omega)]at h;exact h
theorem uJ{α:Type}{xs ys:List α}{i:Nat}{x y:α}(h:xs=ys)(hx:xs[i]? =some x)(hy:ys[i]? =some y):x=y:=by rw[h,hy]at hx;exact(Option.some.inj hx).symm
theorem uK:Enters Tryz.prog 131:=enters_of Tryz.func131 (by kernel_rfl) rfl
theorem aMA{w:World}{v v':Value}{xs ys:List PhiD}(hv:fV PhiR 4 w v xs)(hv':fV PhiR 4 w v' ys):
  Calls Tryz.prog 130 #[v,v',.func (.func 131) #[] #[]] w fun e w'=>e=.returned (.bool (decide (xs=ys)))/\Below w.heap.size w w':=by
 obtain⟨a1,c1,b1,o1,rfl,az,hm1,ar,aa,hx⟩:=gL hv;obtain⟨a2,c2,b2,o2,rfl,ay,hm2,ap,ab,hy⟩:=gL hv';obtain⟨n1,ae⟩:∃n,n=xs.length:=⟨_,rfl⟩;obtain⟨n2,ah⟩:∃n,n=ys.length:=⟨_,rfl⟩;rw[<-ae]at az ar aa⊢;rw[<-ah]at ay ap ab⊢;have G1:=h! ae;have G2:=h! ah;have ba:=h! aa;have bb:=h! ab;have HX:=h! hx;have HY:=h! hy;have HW:=h! (Below.refl w.heap.size w);obtain⟨r,hr⟩:∃r,r=decide (xs=ys):=⟨_,rfl⟩;rw[<-hr];have HR:=h! hr;clear hv hv' ae ah aa ab hx hy hr;have eg1:∀(args:Array Value) (w:World),(callFunc 131 args).run Tryz.prog w=.ok (.enter 131 args) w:=uK;by_cases hnn:n1=n2;rotate_left
 ·have aj:((n1:Int) != (n2:Int))=true:=by simp;omega
  have ai:Hid (r=false):=h! (by rw[HR.out,decide_eq_false_iff_not];intro h;have h1:=G1.out;have h2:=G2.out;rw[h]at h1;omega);go_enter Tryz.func130,Tryz.ntmps130;go_wp2;go_ret;exact⟨by rw[ai.out];rfl,HW.out⟩
 have HNN:=h! hnn;subst hnn;have aj:((n1:Int) != (n1:Int))=false:=by simp
 go_enter Tryz.func130,Tryz.ntmps130;go_wp2_with fail;clear aj;go_loopw [17] (fun i wr=>∃j:Nat,j<=n1/\i=.int .i64 j/\xs.take j=ys.take j/\Below w.heap.size w wr) (fun i _=>n1 - (intOf i).toNat)
 case atStart=>exact⟨0,aL _,rfl,rfl,HW.out⟩
 case round=>
  obtain⟨j,hj,rfl,hs,hW⟩:=hrel;have HS:=h! hs;replace HW:=h! hW;clear hs hW;generalize wr=w3 at*;by_cases hlt:j<n1
  ·obtain⟨rfl,ag⟩:=ba.out (by omega);obtain⟨rfl,ad⟩:=bb.out (by omega);obtain⟨p,hp⟩:∃p,xs[j]? =some p:=⟨_,aA (by have:=G1.out;omega)⟩;obtain⟨q,hq⟩:∃q,ys[j]? =some q:=⟨_,aA (by have:=G2.out;omega)⟩;obtain⟨af,av,cf,cv,hP⟩:=HX.out j p hp;obtain⟨df,dv,ef,ev,hQ⟩:=HY.out j q hq;have HP:=h! hP;have HQ:=h! hQ;have ao:=h! hp;have am:=h! hq;obtain⟨m0,m1,m2,m3,-,-,-,-⟩:=hP.below HW.out ag;clear hp hq hP hQ;go_upto_region 6 with(fail);clear m0 m1 m2 m3;have al:Hid (Below w3.heap.size w3 (w3.alloc (.cells #[.int .i64 p.id,.int .i64 p.typ,.slice af p.src.length cf,.slice av p.vals.length cv] 78))):=h! ((Below.refl _ _).alloc (aC _) _);have B5:=h! (Box.new w3 #[.int .i64 p.id,.int .i64 p.typ,.slice af p.src.length cf,.slice av p.vals.length cv] 78);obtain⟨b5,ak⟩:∃b5,b5=w3.heap.size:=⟨_,rfl⟩;rw[<-ak]at B5⊢;generalize w3.alloc (.cells #[.int .i64 p.id,.int .i64 p.typ,.slice af p.src.length cf,.slice av p.vals.length cv] 78)=w5 at*;clear ak;replace HW:=w! HW al.out;clear al;obtain⟨m0,m1,m2,m3,-,-,-,-⟩:=HQ.below HW.out ad;go_upto_region 7 with(fail);clear m0 m1 m2 m3;have ac:Hid (Below w5.heap.size w5 (w5.alloc (.cells #[.int .i64 q.id,.int .i64 q.typ,.slice df q.src.length ef,.slice dv q.vals.length ev] 78))):=h! ((Below.refl _ _).alloc (aC _) _);have B6:=h! (Box.new w5 #[.int .i64 q.id,.int .i64 q.typ,.slice df q.src.length ef,.slice dv q.vals.length ev] 78);obtain⟨b6,an⟩:∃b6,b6=w5.heap.size:=⟨_,rfl⟩;rw[<-an]at B6⊢;generalize w5.alloc (.cells #[.int .i64 q.id,.int .i64 q.typ,.slice df q.src.length ef,.slice dv q.vals.length ev] 78)=w6 at*;clear an;replace HW:=w! HW ac.out;replace B5:=h! (B5.later ac.out);clear ac;obtain⟨c,hc⟩:∃c,c=decide (p=q):=⟨_,rfl⟩;have HC:=h! hc;have HCT:Hid (Calls Tryz.prog 131 #[.agg #[.int .i64 p.id,.int .i64 p.typ,.slice af p.src.length cf,.slice av p.vals.length cv],.agg #[.int .i64 q.id,.int .i64 q.typ,.slice df q.src.length ef,.slice dv q.vals.length ev]] w6 fun e w'=>e=.returned (.bool c)/\Below w6.heap.size w6 w'):=h! (by rw[hc];exact(aJS ⟨_,_,rfl,(HP.below HW.out ag).src,(HP.below HW.out ag).vals⟩ ⟨_,_,rfl,(HQ.below HW.out ad).src,(HQ.below HW.out ad).vals⟩));clear hc;obtain⟨l5,k5,f5⟩:=B5.out;obtain⟨l6,k6,f6⟩:=B6.out
   cases c
   ·go_wp2_with (go_at_fn 131;refine HCT.mono ?_;rintro e w7 ⟨rfl,hb7⟩;have HB7:=h! hb7;clear hb7);have ai:Hid (r=false):=h! (by rw[HR.out,decide_eq_false_iff_not];intro h;have h1:=HC.out;rw[uJ h ao.out am.out]at h1;simp at h1);go_ret;exact⟨by rw[ai.out];rfl,HW.trans (HB7.mono HW.size)⟩
   go_wp2_with (go_at_fn 131;refine HCT.mono ?_;rintro e w7 ⟨rfl,hb7⟩;have HB7:=h! hb7;clear hb7);have aq:Hid (xs.take (j+1)=ys.take (j+1)):=h! ((sA HS.out ao.out am.out).2 (by have h1:=HC.out;simpa using h1.symm));have aw:=w! HW HB7.out;go_roundw
   case rel=>exact⟨j+1,hlt,by go_num,aq.out,aw.out⟩
   simp[intOf];omega
  have ax:Hid (r=true):=h! (by rw[HR.out,decide_eq_true_eq];have h9:=HS.out;obtain rfl:j=n1:=(by omega);exact uI h9 G1.symm G2.symm);go_wp2;go_ret;exact⟨by rw[ax.out];rfl,HW.out⟩
theorem sB:Enters Tryz.prog 133:=enters_of Tryz.func133 (by kernel_rfl) rfl
theorem aMB{w:World}{v v':Value}{xs ys:List InstrD}(hv:fV jD 4 w v xs)(hv':fV jD 4 w v' ys):
  Calls Tryz.prog 132 #[v,v',.func (.func 133) #[] #[]] w fun e w'=>e=.returned (.bool (decide (xs=ys)))/\Below w.heap.size w w':=by
 obtain⟨a1,c1,b1,o1,rfl,az,hm1,ar,aa,hx⟩:=gU hv;obtain⟨a2,c2,b2,o2,rfl,ay,hm2,ap,ab,hy⟩:=gU hv';obtain⟨n1,ad⟩:∃n,n=xs.length:=⟨_,rfl⟩;obtain⟨n2,ae⟩:∃n,n=ys.length:=⟨_,rfl⟩;rw[<-ad]at az ar aa⊢;rw[<-ae]at ay ap ab⊢;have G1:=h! ad;have G2:=h! ae;have ba:=h! aa;have bb:=h! ab;have HX:=h! hx;have HY:=h! hy;have HW:=h! (Below.refl w.heap.size w);obtain⟨r,hr⟩:∃r,r=decide (xs=ys):=⟨_,rfl⟩;rw[<-hr];have HR:=h! hr;clear hv hv' ad ae aa ab hx hy hr;have eg1:∀(args:Array Value) (w:World),(callFunc 133 args).run Tryz.prog w=.ok (.enter 133 args) w:=sB;by_cases hnn:n1=n2;rotate_left
 ·have ah:((n1:Int) != (n2:Int))=true:=by simp;omega
  have ag:Hid (r=false):=h! (by rw[HR.out,decide_eq_false_iff_not];intro h;have h1:=G1.out;have h2:=G2.out;rw[h]at h1;omega);go_enter Tryz.func132,Tryz.ntmps132;go_wp2;go_ret;exact⟨by rw[ag.out];rfl,HW.out⟩
 have HNN:=h! hnn;subst hnn;have ah:((n1:Int) != (n1:Int))=false:=by simp
 go_enter Tryz.func132,Tryz.ntmps132;go_wp2_with fail;clear ah;go_loopw [17] (fun i wr=>∃j:Nat,j<=n1/\i=.int .i64 j/\xs.take j=ys.take j/\Below w.heap.size w wr) (fun i _=>n1 - (intOf i).toNat)
 case atStart=>exact⟨0,aL _,rfl,rfl,HW.out⟩
 case round=>
  obtain⟨j,hj,rfl,hs,hW⟩:=hrel;have HS:=h! hs;replace HW:=h! hW;clear hs hW;generalize wr=w3 at*;by_cases hlt:j<n1
  ·obtain⟨rfl,al⟩:=ba.out (by omega);obtain⟨rfl,aj⟩:=bb.out (by omega);obtain⟨p,hp⟩:∃p,xs[j]? =some p:=⟨_,aA (by have:=G1.out;omega)⟩;obtain⟨q,hq⟩:∃q,ys[j]? =some q:=⟨_,aA (by have:=G2.out;omega)⟩;obtain⟨af,cf,hP⟩:=HX.out j p hp;obtain⟨df,ef,hQ⟩:=HY.out j q hq;have HP:=h! hP;have HQ:=h! hQ;have ao:=h! hp;have am:=h! hq;obtain⟨m0,m1,m2,m3,-,-,-,-⟩:=hP.below HW.out al;clear hp hq hP hQ;go_upto_region 6 with(fail);clear m0 m1 m2 m3;have ak:Hid (Below w3.heap.size w3 (w3.alloc (.cells #[.int .i64 p.op,.int .i64 p.id,.slice af p.args.length cf,.int .i64 p.n] 82))):=h! ((Below.refl _ _).alloc (aC _) _);have B5:=h! (Box.new w3 #[.int .i64 p.op,.int .i64 p.id,.slice af p.args.length cf,.int .i64 p.n] 82);obtain⟨b5,ai⟩:∃b5,b5=w3.heap.size:=⟨_,rfl⟩;rw[<-ai]at B5⊢;generalize w3.alloc (.cells #[.int .i64 p.op,.int .i64 p.id,.slice af p.args.length cf,.int .i64 p.n] 82)=w5 at*;clear ai;replace HW:=w! HW ak.out;clear ak;obtain⟨m0,m1,m2,m3,-,-,-,-⟩:=HQ.below HW.out aj;go_upto_region 7 with(fail);clear m0 m1 m2 m3;have ac:Hid (Below w5.heap.size w5 (w5.alloc (.cells #[.int .i64 q.op,.int .i64 q.id,.slice df q.args.length ef,.int .i64 q.n] 82))):=h! ((Below.refl _ _).alloc (aC _) _);have B6:=h! (Box.new w5 #[.int .i64 q.op,.int .i64 q.id,.slice df q.args.length ef,.int .i64 q.n] 82);obtain⟨b6,an⟩:∃b6,b6=w5.heap.size:=⟨_,rfl⟩;rw[<-an]at B6⊢;generalize w5.alloc (.cells #[.int .i64 q.op,.int .i64 q.id,.slice df q.args.length ef,.int .i64 q.n] 82)=w6 at*;clear an;replace HW:=w! HW ac.out;replace B5:=h! (B5.later ac.out);clear ac;obtain⟨c,hc⟩:∃c,c=decide (p=q):=⟨_,rfl⟩;have HC:=h! hc;have HCT:Hid (Calls Tryz.prog 133 #[.agg #[.int .i64 p.op,.int .i64 p.id,.slice af p.args.length cf,.int .i64 p.n],.agg #[.int .i64 q.op,.int .i64 q.id,.slice df q.args.length ef,.int .i64 q.n]] w6 fun e w'=>e=.returned (.bool c)/\Below w6.heap.size w6 w'):=h! (by rw[hc];exact(aEE ⟨_,rfl,(HP.below HW.out al).args⟩ ⟨_,rfl,(HQ.below HW.out aj).args⟩));clear hc;obtain⟨l5,k5,f5⟩:=B5.out;obtain⟨l6,k6,f6⟩:=B6.out
   cases c
   ·go_wp2_with (go_at_fn 133;refine HCT.mono ?_;rintro e w7 ⟨rfl,hb7⟩;have HB7:=h! hb7;clear hb7);have ag:Hid (r=false):=h! (by rw[HR.out,decide_eq_false_iff_not];intro h;have h1:=HC.out;rw[uJ h ao.out am.out]at h1;simp at h1);go_ret;exact⟨by rw[ag.out];rfl,HW.trans (HB7.mono HW.size)⟩
   go_wp2_with (go_at_fn 133;refine HCT.mono ?_;rintro e w7 ⟨rfl,hb7⟩;have HB7:=h! hb7;clear hb7);have aq:Hid (xs.take (j+1)=ys.take (j+1)):=h! ((sA HS.out ao.out am.out).2 (by have h1:=HC.out;simpa using h1.symm));have aw:=w! HW HB7.out;go_roundw
   case rel=>exact⟨j+1,hlt,by go_num,aq.out,aw.out⟩
   simp[intOf];omega
  have ax:Hid (r=true):=h! (by rw[HR.out,decide_eq_true_eq];have h9:=HS.out;obtain rfl:j=n1:=(by omega);exact uI h9 G1.symm G2.symm);go_wp2;go_ret;exact⟨by rw[ax.out];rfl,HW.out⟩
def fP(W:World)(S:Foot)(v:Value)(xs:List Int):Prop:=ORow W S 3 1 v xs.length (xs.map (.int .i64))/\∀x∈xs,In64 x
theorem fP.ints{W:World}{S:Foot}{v:Value}{xs:List Int}(h:fP W S v xs):Ints W v xs:=⟨h.1.row,h.2⟩
theorem fP.keep{W W':World}{S:Foot}{v:Value}{xs:List Int}(h:fP W S v xs)(hk:∀k,S k->W'.heap[k]? =W.heap[k]?):fP W' S v xs:=⟨h.1.keep hk,h.2⟩
theorem fP.wide{W:World}{S S':Foot}{v:Value}{xs:List Int}(h:fP W S v xs)(hs:∀k,S k->S' k)(hl:∀k,S' k->k<W.heap.size):fP W S' v xs:=⟨h.1.wide hs hl,h.2⟩
theorem fP.lt{W:World}{S:Foot}{v:Value}{xs:List Int}(h:fP W S v xs):∀k,S k->k<W.heap.size:=h.1.lt
theorem fP.off{W W':World}{S D:Foot}{v:Value}{xs:List Int}(h:fP W S v xs)(ho:Off D W W')(hn:S.off D):fP W' S v xs:=⟨h.1.off ho hn,h.2⟩
theorem fP.set{W:World}{S:Foot}{v:Value}{xs:List Int}(h:fP W S v xs){g cap:Nat}(hv:v=.slice (some ⟨g,0,none⟩) xs.length cap){i:Nat}(hi:i<xs.length){y:Int}(hy:In64 y):fP (W.setCell ⟨g,i,none⟩ (.int .i64 y)) S v (xs.set i y):=by
 refine⟨by rw[cQ,List.map_set];exact h.1.set hv (by omega) i _,fun z hz=> ?_⟩;rcases List.mem_or_eq_of_mem_set hz with h1|h1
 ·exact h.2 z h1
 rw[h1];exact hy
theorem fP.nil{W:World}(a:Option Addr):fP W Foot.none (.slice a 0 0) []:=⟨ORow.nil a,by simp⟩
structure OPhi(W:World)(S:Foot)(cs:List Value)(p:PhiD):Prop where
 ex:∃v u S1 S2,cs=[.int .i64 p.id,.int .i64 p.typ,v,u]/\fP W S1 v p.src/\fP W S2 u p.vals/\S1.off S2/\(∀k,S1 k->S k)/\∀k,S2 k->S k
 lt:∀k,S k->k<W.heap.size
 id:In64 p.id
 typ:In64 p.typ
structure OInstr(W:World)(S:Foot)(cs:List Value)(x:InstrD):Prop where
 ex:∃v,cs=[.int .i64 x.op,.int .i64 x.id,v,.int .i64 x.n]/\fP W S v x.args
 op:In64 x.op
 id:In64 x.id
 n:In64 x.n
structure OTerm(W:World)(S:Foot)(cs:List Value)(t:TermD):Prop where
 ex:∃v,cs=[.int .i64 t.op,.int .i64 t.val,v,.int .i64 t.n]/\fP W S v t.to
 op:In64 t.op
 val:In64 t.val
 n:In64 t.n
theorem OPhi.nice:Nice OPhi where
 keep:=fun h hk=>by
  obtain⟨⟨v,u,S1,S2,e,h1,h2,h3,h4,h5⟩,hl,a,b⟩:=h
  refine⟨⟨v,u,S1,S2,e,h1.keep fun k hk1=>hk k (h4 k hk1),h2.keep fun k hk1=>hk k (h5 k hk1),h3,h4,h5⟩,fun k hs=> ?_,a,b⟩
  have h6:=hk k hs
  rw[bE (hl k hs)]at h6
  exact(aQ.1 h6).1
 lt:=fun h=>h.lt
 wide:=fun h hs hl=>by
  obtain⟨⟨v,u,S1,S2,e,h1,h2,h3,h4,h5⟩,_,a,b⟩:=h
  exact⟨⟨v,u,S1,S2,e,h1,h2,h3,fun k hk=>hs k (h4 k hk),fun k hk=>hs k (h5 k hk)⟩,hl,a,b⟩
theorem OInstr.nice:Nice OInstr where
 keep:=fun⟨⟨v,e,h⟩,a,b,c⟩ hk=>⟨⟨v,e,h.keep hk⟩,a,b,c⟩
 lt:=fun⟨⟨v,e,h⟩,a,b,c⟩=>h.lt
 wide:=fun⟨⟨v,e,h⟩,a,b,c⟩ hs hl=>⟨⟨v,e,h.wide hs hl⟩,a,b,c⟩
theorem OTerm.nice:Nice OTerm where
 keep:=fun⟨⟨v,e,h⟩,a,b,c⟩ hk=>⟨⟨v,e,h.keep hk⟩,a,b,c⟩
 lt:=fun⟨⟨v,e,h⟩,a,b,c⟩=>h.lt
 wide:=fun⟨⟨v,e,h⟩,a,b,c⟩ hs hl=>⟨⟨v,e,h.wide hs hl⟩,a,b,c⟩
abbrev iS:=OSl OPhi 78 4
abbrev kF:=OSl OInstr 82 4
structure OBlock(W:World)(S:Foot)(cs:List Value)(b:BlockD):Prop where
 ex:∃v u t S1 S2 S3,cs=v :: u :: t/\iS W S1 v b.phis/\kF W S2 u b.code/\OTerm W S3 t b.term/\S1.off S2/\S1.off S3/\S2.off S3/\(∀k,S1 k->S k)/\(∀k,S2 k->S k)/\∀k,S3 k->S k
 lt:∀k,S k->k<W.heap.size
theorem OBlock.nice:Nice OBlock where
 keep:=fun h hk=>by
  obtain⟨⟨v,u,t,S1,S2,S3,e,h1,h2,h3,h4,h5,h6,h7,h8,h9⟩,hl⟩:=h
  refine⟨⟨v,u,t,S1,S2,S3,e,h1.keep OPhi.nice fun k hk1=>hk k (h7 k hk1),h2.keep OInstr.nice fun k hk1=>hk k (h8 k hk1),OTerm.nice.keep h3 fun k hk1=>hk k (h9 k hk1),h4,h5,h6,h7,h8,h9⟩,fun k hs=> ?_⟩
  have h6:=hk k hs
  rw[bE (hl k hs)]at h6
  exact(aQ.1 h6).1
 lt:=fun h=>h.lt
 wide:=fun h hs hl=>by
  obtain⟨⟨v,u,t,S1,S2,S3,e,h1,h2,h3,h4,h5,h6,h7,h8,h9⟩,_⟩:=h
  exact⟨⟨v,u,t,S1,S2,S3,e,h1,h2,h3,h4,h5,h6,fun k hk=>hs k (h7 k hk),fun k hk=>hs k (h8 k hk),fun k hk=>hs k (h9 k hk)⟩,hl⟩
abbrev fZ:=OSl OBlock 63 6
structure OFunc(W:World)(S:Foot)(v:Value)(f:FuncD):Prop where
 ex:∃a b S1 S2,v=.agg #[a,.int .i64 f.arrays,.int .i64 f.cells,b]/\fP W S1 a f.params/\fZ W S2 b f.blocks/\S1.off S2/\(∀k,S1 k->S k)/\∀k,S2 k->S k
 lt:∀k,S k->k<W.heap.size
 arrays:In64 f.arrays
 cells:In64 f.cells
theorem OFunc.keep{W W':World}{S:Foot}{v:Value}{f:FuncD}(h:OFunc W S v f)(hk:∀k,S k->W'.heap[k]? =W.heap[k]?):OFunc W' S v f:=by obtain⟨⟨a,b,S1,S2,e,h1,h2,h3,h4,h5⟩,hl,x,y⟩:=h;refine⟨⟨a,b,S1,S2,e,h1.keep fun k hk1=>hk k (h4 k hk1),h2.keep OBlock.nice fun k hk1=>hk k (h5 k hk1),h3,h4,h5⟩,fun k hs=> ?_,x,y⟩;have h6:=hk k hs;rw[bE (hl k hs)]at h6;exact(aQ.1 h6).1
theorem OFunc.off{W W':World}{S D:Foot}{v:Value}{f:FuncD}(h:OFunc W S v f)(ho:Off D W W')(hn:S.off D):OFunc W' S v f:=h.keep fun k hk=>ho.block k (h.lt k hk) (hn k hk)
theorem OFunc.below{W W':World}{S:Foot}{v:Value}{f:FuncD}(h:OFunc W S v f)(hb:Below W.heap.size W W'):OFunc W' S v f:=h.off (.of_below hb Foot.none) fun k _ hk=>hk
theorem OFunc.wide{W:World}{S S':Foot}{v:Value}{f:FuncD}(h:OFunc W S v f)(hs:∀k,S k->S' k)(hl:∀k,S' k->k<W.heap.size):OFunc W S' v f:=by obtain⟨⟨a,b,S1,S2,e,h1,h2,h3,h4,h5⟩,_,x,y⟩:=h;exact⟨⟨a,b,S1,S2,e,h1,h2,h3,fun k hk=>hs k (h4 k hk),fun k hk=>hs k (h5 k hk)⟩,hl,x,y⟩
theorem OPhi.reads{W:World}{S:Foot}{cs:List Value}{p:PhiD}(h:OPhi W S cs p):PhiR W cs p:=by obtain⟨⟨v,u,S1,S2,e,h1,h2,_⟩,_,a,b⟩:=h;exact⟨v,u,e,h1.ints,h2.ints,a,b⟩
theorem OInstr.reads{W:World}{S:Foot}{cs:List Value}{x:InstrD}(h:OInstr W S cs x):jD W cs x:=by obtain⟨⟨v,e,h⟩,a,b,c⟩:=h;exact⟨v,e,h.ints,a,b,c⟩
theorem OTerm.reads{W:World}{S:Foot}{cs:List Value}{t:TermD}(h:OTerm W S cs t):aA3 W cs t:=by obtain⟨⟨v,e,h⟩,a,b,c⟩:=h;exact⟨v,e,h.ints,a,b,c⟩
theorem OBlock.reads{W:World}{S:Foot}{cs:List Value}{b:BlockD}(h:OBlock W S cs b):iI W cs b:=by obtain⟨⟨v,u,t,S1,S2,S3,e,h1,h2,h3,_⟩,_⟩:=h;exact⟨v,u,t,e,h1.reads fun _ _ _ h=>h.reads,h2.reads fun _ _ _ h=>h.reads,h3.reads⟩
theorem OFunc.reads{W:World}{S:Foot}{v:Value}{f:FuncD}(h:OFunc W S v f):gS W v f:=by obtain⟨⟨a,b,S1,S2,e,h1,h2,_⟩,_,x,y⟩:=h;exact⟨a,b,e,h1.ints,x,y,h2.reads fun _ _ _ h=>h.reads⟩
theorem zJ{P:Program}{w:World}{t ty e:TypeId}{z:Value}{size bytes:Nat}(he:Elem P t e z size bytes){v xv:Value}{n m:Nat}{cs news:List Value}{G:Foot}(h:ORow w G e size v n cs)(hr:Row w xv m size news)
  (h1:∀u∈news,u.oneCell'=true) (hbig:n+m<=17592186044416) (hbytes:(n+m)*bytes<=140737488355328):
  ∃v' w' G',(Builtin.append_ #[t,t] ty #[v,xv]).run P w=.ok v' w'/\ORow w' G' e size v' (n+m) (cs++news)/\(∀k,G' k->G k\/w.heap.size<=k)/\Off G w w'/\
   (∀g j,v.ownBlock=some g->j<n*size->w'.cell? ⟨g,j,none⟩=w.cell? ⟨g,j,none⟩):=by
 have ah:n+m<=maxLen:=by unfold maxLen;omega
 have af:∀(base:Nat) (v':Value) (w':World),w'.ownsRow base e size v' (n+m) (cs++news)->(∀k,v'.ownBlock=some k->G k\/w.heap.size<=k)->∃G',ORow w' G' e size v' (n+m) (cs++news)/\∀k,G' k->G k\/w.heap.size<=k:=fun base v' w' r1 r2=>
  ⟨fun k=>v'.ownBlock=some k,ORow.of_own r1 hbig (fun k hk=>hk) (fun k hk=>(r1.lt k hk).2),r2⟩
 have ab:=h.len;rcases h.form with⟨rfl,a,rfl⟩|⟨g,ae,am,rfl,hg,hh,k1,k2,k3,k4⟩
 ·have al:cs=[]:=List.eq_nil_of_length_eq_zero (by simpa using ab);subst al;have hno:∀g j,(Value.slice a 0 0).ownBlock=some g->j<0*size->w.cell? ⟨g,j,none⟩=w.cell? ⟨g,j,none⟩:=fun _ _ _ _=>rfl;by_cases hm:m=0
  ·subst hm;have hn:news=[]:=List.eq_nil_of_length_eq_zero (by simpa using hr.len);subst hn;refine⟨.slice a 0 0,w,Foot.none, ?_,ORow.nil a,fun k hk=>hk.elim,Off.refl _ _,fun g j _ hj=>by simp at hj⟩;obtain⟨ht,⟨i,hi,hz,ak,ai⟩,aj,hp⟩:=he;obtain⟨_,_,ad,ae,rfl,_,_,_,_⟩:=hr
   cases a<;>cases ad<;>simp[Builtin.append_,run_underlying ht,sizeOf,typeInfo,hi,Builtin.lenOf,Builtin.firstCells,loadCells,loadCellsFrom,storeCells]
  cases a with
  | none=>
   obtain⟨v',w',aa,r1,r2,r3,-,-⟩:=kS (ty:=ty) he w.heap.size (World.ownsRow_nil w w.heap.size e size) hr h1 ah hbytes (aC _)
   obtain⟨G',g1,g2⟩:=af _ v' w' r1 (fun k hk=>.inr (r1.lt k hk).1)
   exact⟨v',w',G',aa,g1,g2,Off.grown r2 (fun k hk=>by cases hk),fun g j _ hj=>by simp at hj⟩
  | some b=>
   obtain⟨ht,⟨i,hi,hz,ak,ai⟩,aj,hp⟩:=he
   obtain⟨hl,_,ad,ae,rfl,_,_,ac,hc⟩:=hr
   cases ad with
   | none=>exact absurd (ac rfl).1 hm
   | some ad=>
    obtain⟨v',w',aa,r1,r2⟩:=run_append_arg_grows (P:=P) w t ty e i z size bytes ht hi hz ak ai aj hp b 0 0 [] (by simp) (fun j u hj=>by simp at hj) ad m ae news hl (fun j u hj=>hc ad rfl j u hj) (by omega) ah hbytes
    obtain⟨G',g1,g2⟩:=af _ v' w' r1 (fun k hk=>.inr (r1.lt k hk).1)
    exact⟨v',w',G',aa,g1,g2,Off.grown r2 (fun k hk=>by cases hk),fun g j _ hj=>by simp at hj⟩
 ·have ag:w.ownsRow 0 e size (.slice (some ⟨g,0,none⟩) n ae) n cs:=⟨ab,.inr ⟨g,ae,am,rfl,aL _,hh,k1,k2,k3,k4⟩⟩;obtain⟨v',w',aa,r1,r2,r3,r4,-⟩:=kS (ty:=ty) he 0 ag hr h1 ah hbytes (aL _);obtain⟨G',g1,g2⟩:=af _ v' w' r1 (fun k hk=>by
   rcases r3 with e3|e3
   ·rw[e3]at hk;cases hk;exact .inl hg
   rw[e3]at hk;cases hk;exact .inr (aC _))
  exact⟨v',w',G',aa,g1,g2,Off.grown r2 (fun k hk=>by cases hk;exact hg),r4⟩
theorem oZ{P:Program}{w:World}{ops:Array Oper}{rest:List Oper}{o:Oper}{a:Act}{Q:Exit->Act->World->Prop}(hgd:o.guard=none)(s x:Operand)(t e:TypeId)
  (ho:o.op=.call { callee:=.builtin .append,args:=#[s,x],argTypes:=#[t,t] }) {z:Value} {size bytes:Nat} (he:Elem P t e z size bytes)
  {v xv:Value} {n m:Nat} {cs news:List Value} {G:Foot} (hs:a.eval s=v) (hx:a.eval x=xv) (h:ORow w G e size v n cs) (hr:Row w xv m size news)
  (h1:∀u∈news,u.oneCell'=true) (hbig:n+m<=17592186044416) (hbytes:(n+m)*bytes<=140737488355328)
  (hK:∀v' w' G',ORow w' G' e size v' (n+m) (cs++news)->(∀k,G' k->G k\/w.heap.size<=k)->Off G w w'->wpList P ops Q rest (a.put o.dst v') w'):wpList P ops Q (o :: rest) a w:=by
 obtain⟨v',w',G',aa,r1,r2,r3,-⟩:=zJ (ty:=o.type) he h hr h1 hbig hbytes;refine wpList_plain hgd fun K hK'=> ?_;unfold Oper.wp execOp;simp only[ho,resolve,invoke,builtin,Sem.run_bind,Sem.run_pure,Result.andThen_ok,List.map_toArray,cI,fD,hs,hx,aa];exact hK' _ _ (hK v' w' G' r1 r2 r3)
theorem wC{P:Program}{w:World}{o:Oper}{a:Act}(s x:Operand)(t e:TypeId)
  (ho:o.op=.call { callee:=.builtin .append,args:=#[s,x],argTypes:=#[t,t] }) {z:Value} {size bytes:Nat} (he:Elem P t e z size bytes)
  {v xv:Value} {n m:Nat} {cs news:List Value} {G:Foot} (hs:a.eval s=v) (hx:a.eval x=xv) (h:ORow w G e size v n cs) (hr:Row w xv m size news)
  (h1:∀u∈news,u.oneCell'=true) (hbig:n+m<=17592186044416) (hbytes:(n+m)*bytes<=140737488355328):
  ∃v' w' G',(execOp a.eval o).run P w=.ok (.value v') w'/\ORow w' G' e size v' (n+m) (cs++news)/\(∀k,G' k->G k\/w.heap.size<=k)/\Off G w w'/\
   (∀g j,v.ownBlock=some g->j<n*size->w'.cell? ⟨g,j,none⟩=w.cell? ⟨g,j,none⟩):=by
 obtain⟨v',w',G',aa,r⟩:=zJ (ty:=o.type) he h hr h1 hbig hbytes;refine⟨v',w',G', ?_,r⟩;unfold execOp;simp only[ho,resolve,invoke,builtin,Sem.run_bind,Sem.run_pure,Result.andThen_ok,List.map_toArray,cI,fD,hs,hx,aa]
def nH(base:Nat)(S:Foot):Prop:=∀k,S k->base<=k
theorem nH.off{base:Nat}{S D:Foot}(h:nH base S)(hD:∀k,D k->k<base):S.off D:=fun k hs hd=>by have:=h k hs;have:=hD k hd;omega
def aIV(xs:List Int)(w:World)(e:Ending)(w':World):Prop:=∃u S,e=.returned u/\fP w' S u xs/\nH w.heap.size S/\Below w.heap.size w w'
theorem tM{w:World}{v:Value}{xs:List Int}(hs:Ints w v xs):Calls Tryz.prog 90 #[v] w (aIV xs w):=by
 have q4:∀(w:World) (a:Option Addr) (n c n' c':Nat),(binOp .eql 22 (.slice a n c) (.slice none n' c')).run Tryz.prog w=.ok (.bool a.isNone) w:=fun w a n c n' c'=>Lib.run_eql_slice_nil w _ _ a n c n' c' Tryz.underlying22;obtain⟨a,c,b,o,rfl,-,-,ha,-⟩:=hs.parts;have HS:=h! hs;obtain⟨n,hn⟩:∃n,n=xs.length:=⟨_,rfl⟩;have HN:=h! hn;rw[<-hn]at HS ha⊢;have HA:=h! ha;clear hs ha hn
 cases a with
 | none=>
  have hx:xs=[]:=by have h:=HA.out;refine cS ?_;rw[<-HN.out];exact Classical.byContradiction fun h2=>by have:=(h (by omega)).1;cases this
  have HX:=h! hx
  clear hx
  go_enter Tryz.func90,Tryz.ntmps90
  go_wp2
  go_ret
  exact⟨_,Foot.none,rfl,by rw[HX.out];exact fP.nil none,fun k hk=>hk.elim,Below.refl _ _⟩
 | some ad=>
  go_enter Tryz.func90,Tryz.ntmps90
  go_wp2_with (at_builtin;refine oZ rfl _ _ 22 3 rfl oW rfl rfl (ORow.of_own (n:=0) (cs:=[]) (G:=Foot.one w.heap.size) (aFM w 3) (by omega) (fun k hk=>by cases hk;rfl) (fun k hk=>by cases hk;simp)) (HS.below ((Below.refl _ _).alloc (aC _) _)).1 (sJ _) (by rw[bM];exact HS.1.big) (by rw[bM];have:=HS.1.big;omega) ?_;intro v2 w2 G2 r1 r2 r3;have R1:=h! r1;have R2:=h! r2;have R3:=h! r3;clear r1 r2 r3)
  go_ret
  have h1:=R1.out
  rw[bM,eV]at h1
  refine⟨v2,G2,rfl,⟨h1,HS.2⟩,fun k hk=> ?_,((Below.refl _ _).alloc (aC _) _).trans (R3.below (by simp) fun k _ hk=>by cases hk;exact aC _)⟩
  rcases R2.out k hk with h2|h2
  ·cases h2;exact aC _
  simp at h2;omega
end Go.Proofs.YtagabiidbbhhmaaGreat
