/- Part 52. -/
import Derived.Test.YtagabiidbbhhmaaGreatET50
namespace Go.Proofs.YtagabiidbbhhmaaGreat
set_option maxHeartbeats 3200000
set_option linter.all false
set_option maxRecDepth 100000
section
open Go.RowKit Go.Shelf
private theorem iG.alloc{w0 W:World}(h:iG w0 W)(o:Obj):iG w0 (W.alloc o):=h.later ((Below.refl _ _).alloc (aC _) o)
open Go.RowKit
theorem tV(W:World)(v:Value)(f:FuncD)(hv:gS W v f):Calls Tryz.prog 11 #[v] W (RenR f W):=aAH (fun _ _ _ h1 h2 h3=>aIB h1 h2 h3) hv
theorem aDB{w:World}{v v':Value}{f g:FuncD}(hf:gS w v f)(hg:gS w v' g):
  Calls Tryz.prog 15 #[v,v'] w fun e w'=>∃r,e=.returned (.bool r)/\vI f g r/\Below w.heap.size w w':=aDO tV hf hg
theorem rC:gE iP 0 0:=by
 refine .inr ⟨fun d hd=> ?_,.inr ⟨fun d y hy=> ?_,.inr ⟨fun v hv=> ?_,rfl,rfl⟩⟩⟩
 ·have h1:d<1:=hd;obtain rfl:d=0:=by omega
  exact .zero (by decide)
 ·have h1:=(aD.1 hy).1;have h2:d<1:=h1;obtain rfl:d=0:=by omega
  have h3:some (⟨[],[⟨1,0,[],5⟩],⟨3,0,[],0⟩⟩:BlockD)=some y:=hy;injection h3 with h3;rw[<-h3];rfl
 have h9:∀v∈uxF iP,v.id=0/\v.blk=0/\v.pos=1:=by decide
 obtain⟨h1,h2,h3⟩:=h9 v hv;exact⟨0,0,by rw[h1,uG];rfl,.inr ⟨by omega,.inl ⟨h2.symm,by omega⟩⟩⟩
theorem nR{g:FuncD}{k:Int}(h:RenP iP g k):g=iP/\k=0:=by
 have h0:SErr iP 0:=.inr ⟨yJ.1,0,rC⟩;obtain⟨s,h1,h2⟩:=h;obtain rfl:=h1.one h0;rcases h2 with⟨n,_⟩|⟨_,rfl,O,hO,rfl⟩
 ·exact absurd rfl n
 obtain⟨q1,-,q3,q4,-⟩:=hO.facts;have q5:∀b∈O,b=0:=fun b hb=>by have h9:b<1:=q3 b hb;omega
 have:O=[0]:=by
  match O,q1,q4,q5 with
  | [],_,h,_=>simp at h
  | [a],_,_,h=>rw[h a (by simp)]
  | a :: b :: l,h,_,h2=>
   exfalso
   rw[eH]at h
   exact h.1 (by rw[h2 a (by simp),<-h2 b (by simp)];simp)
 subst this;exact⟨by decide,rfl⟩
theorem sR{r:Bool}(h:vI iP iP r):r=true:=by obtain⟨a,b,k,q,h1,h2,rfl⟩:=h;obtain⟨rfl,rfl⟩:=nR h1;obtain⟨rfl,rfl⟩:=nR h2;simp
set_option maxHeartbeats 6400000 in
theorem aIL{w:World}:Calls Tryz.prog 13 #[] w fun e w'=>e=.returned (.bool true)/\Below w.heap.size w w':=by
 go_enter Tryz.func13,Tryz.ntmps13;go_upto_region 2 with(fail);have aa:=(Below.refl w.heap.size w).alloc (aC _) (.cells #[.int .i64 1,.int .i64 0,.slice none 0 0,.int .i64 5] 82);have HW:=h! aa;clear aa;have B0:=h! (Box.new w #[.int .i64 1,.int .i64 0,.slice none 0 0,.int .i64 5] 82);have ak:(w.alloc (.cells #[.int .i64 1,.int .i64 0,.slice none 0 0,.int .i64 5] 82)).heap.size=w.heap.size+1:=World.size_alloc _ _;generalize w.alloc (.cells #[.int .i64 1,.int .i64 0,.slice none 0 0,.int .i64 5] 82)=an at*;have aa:=(Below.refl an.heap.size an).alloc (aC _) (.cells #[.slice none 0 0,.slice (some ⟨w.heap.size,0,none⟩) 1 1,.int .i64 3,.int .i64 0,.slice none 0 0,.int .i64 0] 63);replace B0:=h! (B0.later aa);replace HW:=w! HW aa;clear aa;have B1:=h! (Box.new an #[.slice none 0 0,.slice (some ⟨w.heap.size,0,none⟩) 1 1,.int .i64 3,.int .i64 0,.slice none 0 0,.int .i64 0] 63);rw[ak]at B1;have am:(an.alloc (.cells #[.slice none 0 0,.slice (some ⟨w.heap.size,0,none⟩) 1 1,.int .i64 3,.int .i64 0,.slice none 0 0,.int .i64 0] 63)).heap.size=w.heap.size+1+1:=by rw[World.size_alloc,ak]
 clear ak;generalize an.alloc (.cells #[.slice none 0 0,.slice (some ⟨w.heap.size,0,none⟩) 1 1,.int .i64 3,.int .i64 0,.slice none 0 0,.int .i64 0] 63)=ay at*;have aa:=(Below.refl ay.heap.size ay).alloc (aC _) (.cells #[.slice none 0 0,.int .i64 0,.int .i64 0,.slice (some ⟨w.heap.size+1,0,none⟩) 1 1] 25);replace B0:=h! (B0.later aa);replace B1:=h! (B1.later aa);replace HW:=w! HW aa;clear aa;have B2:=h! (Box.new ay #[.slice none 0 0,.int .i64 0,.int .i64 0,.slice (some ⟨w.heap.size+1,0,none⟩) 1 1] 25);rw[am]at B2;clear am;generalize ay.alloc (.cells #[.slice none 0 0,.int .i64 0,.int .i64 0,.slice (some ⟨w.heap.size+1,0,none⟩) 1 1] 25)=wv at*;obtain⟨ab,ai,ah⟩:=B0.out;obtain⟨ad,ae,ag⟩:=B1.out;obtain⟨ac,aj,af⟩:=B2.out;go_wp2_with fail;refine(tV _ _ _ (mM B0.out B1.out)).mono ?_;rintro e w2 ⟨g,k,v2,S2,hp,rfl,hO,hF,hb⟩;obtain⟨rfl,rfl⟩:=nR hp;obtain⟨ax,cx,bx,dx,rfl,-,-,-,-⟩:=hO.reads.form;have HA:=h! (kM hO hF);clear hp hO hF;obtain⟨pl,ba⟩:∃pl,pl=iP.params.length:=⟨_,rfl⟩;obtain⟨ar,bd⟩:∃ar,ar=iP.arrays:=⟨_,rfl⟩;obtain⟨ce,bc⟩:∃ce,ce=iP.cells:=⟨_,rfl⟩;obtain⟨bl,bb⟩:∃bl,bl=iP.blocks.length:=⟨_,rfl⟩;rw[<-ba,<-bd,<-bc,<-bb]at HA;rw[<-ba,<-bd,<-bc,<-bb];clear ba bd bc bb;clear ab ai ah ad ae ag ac aj af;replace B0:=h! (B0.later hb);replace B1:=h! (B1.later hb);replace B2:=h! (B2.later hb);replace HW:=w! HW hb;clear hb;obtain⟨ab,ai,ah⟩:=B0.out;obtain⟨ad,ae,ag⟩:=B1.out;obtain⟨ac,aj,af⟩:=B2.out;go_upto_region 3 with(fail);replace HA:=h! (HA.more (aC _));have ap:w2.heap.size≠w.heap.size:=fun e=>by have:=ab;omega
 have nB0B3:w.heap.size≠w2.heap.size:=fun e=>ap e.symm;have ao:w2.heap.size≠w.heap.size+1:=fun e=>by have:=ad;omega
 have nB1B3:w.heap.size+1≠w2.heap.size:=fun e=>ao e.symm;have al:w2.heap.size≠w.heap.size+1+1:=fun e=>by have:=ac;omega
 have nB2B3:w.heap.size+1+1≠w2.heap.size:=fun e=>al e.symm;clear ab ai ah ad ae ag ac aj af;have aa:=(Below.refl w2.heap.size w2).alloc (aC _) (.cells #[.slice ax pl cx,.int .i64 ar,.int .i64 ce,.slice bx bl dx] 25);replace B0:=h! (B0.later aa);replace B1:=h! (B1.later aa);replace B2:=h! (B2.later aa);replace HA:=h! (HA.later aa);replace HW:=w! HW aa;clear aa;have B3:=h! (Box.new w2 #[.slice ax pl cx,.int .i64 ar,.int .i64 ce,.slice bx bl dx] 25);generalize w2.alloc (.cells #[.slice ax pl cx,.int .i64 ar,.int .i64 ce,.slice bx bl dx] 25)=w3 at*;obtain⟨ab,ai,ah⟩:=B0.out;obtain⟨ad,ae,ag⟩:=B1.out;obtain⟨ac,aj,af⟩:=B2.out;obtain⟨aq,aw,az⟩:=B3.out;go_wp2_with fail;refine(aFQ (mM B0.out B1.out) HA.now.reads).mono ?_;rintro e w4 ⟨he,hb⟩;rw[decide_eq_true rfl]at he;subst he;clear ab ai ah ad ae ag ac aj af aq aw az;replace B0:=h! (B0.later hb);replace B1:=h! (B1.later hb);replace B2:=h! (B2.later hb);replace B3:=h! (B3.later hb);replace HA:=h! (HA.later hb);replace HW:=w! HW hb;clear hb;obtain⟨ab,ai,ah⟩:=B0.out;obtain⟨ad,ae,ag⟩:=B1.out;obtain⟨ac,aj,af⟩:=B2.out;obtain⟨aq,aw,az⟩:=B3.out;go_wp2_with fail;refine(aDB (mM B0.out B1.out) (mM B0.out B1.out)).mono ?_;rintro e w5 ⟨r,rfl,hq,hb⟩;obtain rfl:=sR hq;clear hq;clear ab ai ah ad ae ag ac aj af aq aw az;replace B0:=h! (B0.later hb);replace B1:=h! (B1.later hb);replace B2:=h! (B2.later hb);replace B3:=h! (B3.later hb);replace HA:=h! (HA.later hb);replace HW:=w! HW hb;clear hb;obtain⟨ab,ai,ah⟩:=B0.out;obtain⟨ad,ae,ag⟩:=B1.out;obtain⟨ac,aj,af⟩:=B2.out;obtain⟨aq,aw,az⟩:=B3.out;go_wp2;go_ret;exact⟨rfl,HW.out⟩
def nS(b:Bool):Int:=if b then 1 else 0
def shnI(b:Int):Nat:=(b % 64).toNat
def jX(op a b:Int):Int:=
 if op=3 then IntKind.i64.wrap (a+b) else if op=4 then IntKind.i64.wrap (a - b) else if op=5 then IntKind.i64.wrap (a*b)
 else if op=6 then bits .and .i64 a b else if op=7 then bits .or .i64 a b else if op=8 then bits .xor .i64 a b
 else if op=9 then IntKind.i64.wrap (a*2 ^ shnI b) else if op=10 then IntKind.i64.wrap (IntKind.u64.wrap a / 2 ^ shnI b)
 else if op=11 then IntKind.i64.wrap (a.tdiv b) else if op=12 then a.tmod b
 else if op=13 then nS (a == b) else if op=14 then nS (decide (a<b)) else nS (decide (IntKind.u64.wrap a<IntKind.u64.wrap b))
def qI(op:Int):Nat:=if op=16 then 1 else if op=17 then 3 else 2
def oO(op:Int)(a:List Int):Int:=
 if op<3\/17<op\/a.length≠qI op then 0
 else if op=16 then nS (a.getD 0 0 == 0) else if op=17 then (if a.getD 0 0≠0 then a.getD 1 0 else a.getD 2 0)
 else if (op=11\/op=12)/\a.getD 1 0=0 then 0 else jX op (a.getD 0 0) (a.getD 1 0)
def pZ(op:Int)(a:List Int):Int:=
 if op<3\/17<op\/a.length≠qI op then 1
 else if op=16 then 0 else if op=17 then 0
 else if (op=11\/op=12)/\a.getD 1 0=0 then 9 else 0
structure RunS where
 vals:Int->Int
 cells:List Int
 arrays:List (List Int)
 out:List Int
 steps:Nat
 checks:Nat
 visits:List Nat
structure OverD where
 how:Int
 value:Int
 trap:Int
inductive Res (α:Type) where
 | go (a:α) (s:RunS)
 | over (o:OverD) (s:RunS)
def Res.bind{α β:Type}(r:Res α)(k:α->RunS->Res β):Res β:=match r with| .go a s=>k a s| .over o s=>.over o s
def Res.st{α:Type}:Res α->RunS| .go _ s=>s| .over _ s=>s
def setV(s:RunS)(id v:Int):RunS:={ s with vals:=fun i=>if i=id then v else s.vals i }
def mB(fuel:Nat)(s:RunS):Res Unit:=if s.steps=fuel then .over ⟨3,0,0⟩ s else .go () { s with steps:=s.steps+1 }
def jJ(op:Int)(s:RunS):RunS:=if op=19\/op=20 then { s with checks:=s.checks+1 } else s
def aAU(op:Int):OverD:=if op=19\/op=20 then ⟨2,0,-2⟩ else ⟨5,0,0⟩
def lW(op:Int)(n i:Int)(s:RunS):Res Unit:=if i<0\/((s.arrays.getD n.toNat []).length:Int)<=i then .over (aAU op) (jJ op s) else .go () (jJ op s)
def gG(x:InstrD)(s:RunS):Res Int:=
 if x.op=1\/x.op=2 then .go x.n s
 else if x.op=18 then .go ((s.arrays.getD x.n.toNat []).length) s
 else if x.op=19\/x.op=21 then (lW x.op x.n ((x.args.map s.vals).getD 0 0) s).bind fun _ s1=>.go ((s1.arrays.getD x.n.toNat []).getD ((x.args.map s.vals).getD 0 0).toNat 0) s1
 else if x.op=20\/x.op=22 then (lW x.op x.n ((x.args.map s.vals).getD 0 0) s).bind fun _ s1=>.go 0 { s1 with arrays:=s1.arrays.modify x.n.toNat fun a=>a.set ((x.args.map s.vals).getD 0 0).toNat ((x.args.map s.vals).getD 1 0) }
 else if x.op=23 then (if s.out.length=4096 then .over ⟨4,0,0⟩ s else .go 0 { s with out:=s.out++[(x.args.map s.vals).getD 0 0] })
 else if x.op=24 then .go (s.cells.getD x.n.toNat 0) s
 else if x.op=25 then .go 0 { s with cells:=s.cells.set x.n.toNat ((x.args.map s.vals).getD 0 0) }
 else if pZ x.op (x.args.map s.vals)≠0 then .over ⟨2,0,-1⟩ s else .go (oO x.op (x.args.map s.vals)) s
def putS(x:InstrD)(v:Int)(s:RunS):RunS:=if 0<=x.id then setV s x.id v else s
def oneS(fuel:Nat)(x:InstrD)(s:RunS):Res Unit:=(mB fuel s).bind fun _ s1=>(gG x s1).bind fun v s2=>.go () (putS x v s2)
def jV(fuel:Nat):List InstrD->RunS->Res Unit
 | [],s=>.go () s
 | x :: xs,s=>(oneS fuel x s).bind fun _ s1=>jV fuel xs s1
theorem qF(fuel:Nat)(xs ys:List InstrD)(s:RunS):jV fuel (xs++ys) s=(jV fuel xs s).bind fun _ s1=>jV fuel ys s1:=by
 induction xs generalizing s with
 | nil=>rfl
 | cons x xs ih=>
  simp only[List.cons_append,jV]
  cases oneS fuel x s with
  | go a s1=>exact ih s1
  | over o s1=>rfl
theorem aAV{fuel:Nat}{xs:List InstrD}{i:Nat}{x:InstrD}{s s1:RunS}(hx:xs[i]? =some x)(h:jV fuel (xs.take i) s=.go () s1):jV fuel (xs.take (i+1)) s=oneS fuel x s1:=by
 rw[cX,hx,Option.toList_some,qF,h];show(jV fuel [x] s1)=_;simp only[jV]
 cases oneS fuel x s1<;>rfl
theorem sW{fuel:Nat}{xs:List InstrD}{i:Nat}{s s1:RunS}{o:OverD}(h:jV fuel (xs.take i) s=.over o s1):jV fuel xs s=.over o s1:=by have:=qF fuel (xs.take i) (xs.drop i) s;rw[dJ,h]at this;exact this
def phiV(src:Int)(s:RunS)(p:PhiD):Int:=s.vals (p.vals.getD (p.src.idxOf src) 0)
def nT(s:RunS)(pv:List (PhiD×Int)):RunS:=pv.foldl (fun s q=>setV s q.1.id q.2) s
def pE(b:BlockD)(src:Int)(s:RunS):RunS:=nT s (b.phis.map fun p=>(p,phiV src s p))
def endR(t:TermD)(s:RunS):Res Int:=
 if t.op=3 then .over ⟨1,s.vals t.val,0⟩ s
 else if t.op=4 then .over ⟨2,0,t.n⟩ s
 else if t.op=2 then .go (t.to.getD (1 - s.vals t.val).toNat 0) s
 else .go (t.to.getD 0 0) s
def kV(at_:Nat)(s:RunS):RunS:={ s with visits:=s.visits.modify at_ (· +1) }
def lD(f:FuncD)(fuel:Nat)(src:Int)(at_:Nat)(s:RunS):Res Int:=
 (jV fuel (f.blocks.getD at_ default).code (pE (f.blocks.getD at_ default) src (kV at_ s))).bind fun _ s1=>(mB fuel s1).bind fun _ s2=>endR (f.blocks.getD at_ default).term s2
def runN(f:FuncD)(fuel:Nat):Nat->Int->Nat->RunS->Option (OverD×RunS)
 | 0,_,_,_=>none
 | n+1,src,at_,s=>match lD f fuel src at_ s with
  | .over o s1=>some (o,s1)
  | .go to s1=>runN f fuel n at_ to.toNat s1
theorem rD{f:FuncD}{fuel:Nat}:∀{n m:Nat} {src:Int} {at_:Nat} {s:RunS} {r:OverD×RunS},runN f fuel n src at_ s=some r->n<=m->runN f fuel m src at_ s=some r
 | 0,_,_,_,_,_,h,_=>by simp[runN]at h
 | n+1,0,_,_,_,_,_,hm=>absurd hm (by omega)
 | n+1,m+1,src,at_,s,r,h,hm=>by
  unfold runN at h⊢
  cases hb:lD f fuel src at_ s with
  | over o s1=>rw[hb]at h;exact h
  | go to s1=>rw[hb]at h;exact rD h (by omega)
def Runs(f:FuncD)(fuel:Nat)(src:Int)(at_:Nat)(s:RunS)(o:OverD)(s':RunS):Prop:=∃n,runN f fuel n src at_ s=some (o,s')
theorem Runs.one{f:FuncD}{fuel:Nat}{src:Int}{at_:Nat}{s s1 s2:RunS}{o o2:OverD}(h:Runs f fuel src at_ s o s1)(k:Runs f fuel src at_ s o2 s2):o=o2/\s1=s2:=by obtain⟨n,h⟩:=h;obtain⟨m,k⟩:=k;have h1:=rD h (Nat.le_max_left n m);have k1:=rD k (Nat.le_max_right n m);rw[h1]at k1;injection k1 with e;exact⟨congrArg Prod.fst e,congrArg Prod.snd e⟩
theorem Runs.over{f:FuncD}{fuel:Nat}{src:Int}{at_:Nat}{s s1:RunS}{o:OverD}(h:lD f fuel src at_ s=.over o s1):Runs f fuel src at_ s o s1:=⟨1,by unfold runN;rw[h]⟩
theorem Runs.go{f:FuncD}{fuel:Nat}{src to:Int}{at_:Nat}{s s1 s2:RunS}{o:OverD}(h:lD f fuel src at_ s=.go to s1)(k:Runs f fuel at_ to.toNat s1 o s2):Runs f fuel src at_ s o s2:=by obtain⟨n,k⟩:=k;exact⟨n+1,by unfold runN;rw[h];exact k⟩
structure InputD where
 args:List Int
 arrays:List (List Int)
def argI(f:FuncD)(args:List Int)(id:Int):Int:=
 if 0<=id/\id<f.params.length/\id<args.length then (if f.params.getD id.toNat 0=2 then nS (decide (args.getD id.toNat 0≠0)) else args.getD id.toNat 0) else 0
def nU(f:FuncD)(i:InputD):RunS:=
 { vals:=argI f i.args,cells:=List.replicate f.cells.toNat 0,arrays:=(List.range f.arrays.toNat).map fun k=>(i.arrays.getD k []).take 4096,out:=[],steps:=0,checks:=0,visits:=List.replicate f.blocks.length 0 }
structure TraceD where
 how:Int
 value:Int
 trap:Int
 out:List Int
 arrays:List (List Int)
 steps:Int
 checks:Int
 visits:List Int
 deriving DecidableEq,Inhabited
def yR:TraceD:=⟨6,0,0,[],[],0,0,[]⟩
def aDC(o:OverD)(s:RunS):TraceD:=⟨o.how,o.value,o.trap,s.out,s.arrays,s.steps,s.checks,s.visits.map fun n:Nat=>(n:Int)⟩
theorem rE(op n i:Int)(s:RunS):lW op n i s=.over (aAU op) (jJ op s)\/lW op n i s=.go () (jJ op s):=by
 unfold lW;split
 ·exact .inl rfl
 exact .inr rfl
def vis(s:RunS)(b:Nat):Nat:=s.visits.getD b 0
def pF(v:Value)(w:World)(e:Ending)(w':World):Prop:=e=.returned v/\Below w.heap.size w w'
theorem aDD{w:World}(b:Bool):Calls Tryz.prog 54 #[.bool b] w (pF (.int .i64 (nS b)) w):=by
 cases b
 ·skip;go_enter Tryz.func54,Tryz.ntmps54;go_wp2;go_ret;exact⟨rfl,Below.refl _ _⟩
 skip;go_enter Tryz.func54,Tryz.ntmps54;go_wp2;go_ret;exact⟨rfl,Below.refl _ _⟩
theorem aLB(b:Int):bits .and .i64 b 63=b % 64:=by
 have h1:(BitVec.ofInt 64 b&&&BitVec.ofInt 64 63).toNat=(b % 64).toNat:=by
  rw[BitVec.toNat_and];have h2:(BitVec.ofInt 64 63).toNat=2 ^ 6 - 1:=by decide
  rw[h2,Nat.and_two_pow_sub_one_eq_mod,BitVec.toNat_ofInt];omega
 have aa:bits .and .i64 b 63=IntKind.i64.wrap ((BitVec.ofInt 64 b&&&BitVec.ofInt 64 63).toNat:Int):=rfl;rw[aa,h1];have h3:0<=b % 64/\b % 64<64:=by omega
 rw[jS,fH h3.1];unfold wrap64;omega
theorem aDE{w:World}(a b:Int):Calls Tryz.prog 213 #[.int .i64 a,.int .i64 b] w (pF (.int .i64 (jX 3 a b)) w):=by have hc:jX 3 a b=wrap64 (a+b):=jS _;rw[hc];clear hc;go_enter Tryz.func213,Tryz.ntmps213;go_wp2;go_ret;exact⟨rfl,Below.refl _ _⟩
theorem aDF{w:World}(a b:Int):Calls Tryz.prog 214 #[.int .i64 a,.int .i64 b] w (pF (.int .i64 (jX 4 a b)) w):=by have hc:jX 4 a b=wrap64 (a - b):=jS _;rw[hc];clear hc;go_enter Tryz.func214,Tryz.ntmps214;go_wp2;go_ret;exact⟨rfl,Below.refl _ _⟩
theorem aDG{w:World}(a b:Int):Calls Tryz.prog 215 #[.int .i64 a,.int .i64 b] w (pF (.int .i64 (jX 5 a b)) w):=by have hc:jX 5 a b=wrap64 (a*b):=jS _;rw[hc];clear hc;go_enter Tryz.func215,Tryz.ntmps215;go_wp2;go_ret;exact⟨rfl,Below.refl _ _⟩
theorem aDH{w:World}(a b:Int):Calls Tryz.prog 216 #[.int .i64 a,.int .i64 b] w (pF (.int .i64 (jX 6 a b)) w):=by have hc:jX 6 a b=bits .and .i64 a b:=rfl;rw[hc];clear hc;go_enter Tryz.func216,Tryz.ntmps216;go_wp2;go_ret;exact⟨rfl,Below.refl _ _⟩
theorem aIM{w:World}(a b:Int):Calls Tryz.prog 217 #[.int .i64 a,.int .i64 b] w (pF (.int .i64 (jX 7 a b)) w):=by have hc:jX 7 a b=bits .or .i64 a b:=rfl;rw[hc];clear hc;go_enter Tryz.func217,Tryz.ntmps217;go_wp2;go_ret;exact⟨rfl,Below.refl _ _⟩
theorem aDI{w:World}(a b:Int):Calls Tryz.prog 218 #[.int .i64 a,.int .i64 b] w (pF (.int .i64 (jX 8 a b)) w):=by have hc:jX 8 a b=bits .xor .i64 a b:=rfl;rw[hc];clear hc;go_enter Tryz.func218,Tryz.ntmps218;go_wp2;go_ret;exact⟨rfl,Below.refl _ _⟩
theorem aDJ{w:World}(a b:Int):Calls Tryz.prog 219 #[.int .i64 a,.int .i64 b] w (pF (.int .i64 (jX 9 a b)) w):=by
 have hc:jX 9 a b=wrap64 (a*2 ^ (b % 64).toNat):=by rw[<-jS];rfl
 rw[hc];have h6:=aLB b;have h0:0<=b % 64:=by omega
 clear hc;go_enter Tryz.func219,Tryz.ntmps219;go_wp2;go_ret;exact⟨rfl,Below.refl _ _⟩
theorem aDK{w:World}(a b:Int):Calls Tryz.prog 220 #[.int .i64 a,.int .i64 b] w (pF (.int .i64 (jX 10 a b)) w):=by
 have hc:jX 10 a b=wrap64 (IntKind.u64.wrap a / 2 ^ (b % 64).toNat):=by rw[<-jS];rfl
 rw[hc];have h6:=aLB b;have h0:0<=b % 64:=by omega
 clear hc;go_enter Tryz.func220,Tryz.ntmps220;go_wp2;go_ret;exact⟨rfl,Below.refl _ _⟩
theorem aI6{w:World}(a b:Int)(hb:¬b=0):Calls Tryz.prog 221 #[.int .i64 a,.int .i64 b] w (pF (.int .i64 (jX 11 a b)) w):=by
 have hc:jX 11 a b=wrap64 (a.tdiv b):=by rw[<-jS];rfl
 rw[hc];clear hc;go_enter Tryz.func221,Tryz.ntmps221;go_wp2;go_ret;exact⟨rfl,Below.refl _ _⟩
theorem aI7{w:World}(a b:Int)(hb:¬b=0):Calls Tryz.prog 222 #[.int .i64 a,.int .i64 b] w (pF (.int .i64 (jX 12 a b)) w):=by have hc:jX 12 a b=a.tmod b:=rfl;rw[hc];clear hc;go_enter Tryz.func222,Tryz.ntmps222;go_wp2;go_ret;exact⟨rfl,Below.refl _ _⟩
theorem aIN{w:World}(a b:Int):Calls Tryz.prog 223 #[.int .i64 a,.int .i64 b] w (pF (.int .i64 (jX 13 a b)) w):=by have hc:jX 13 a b=nS (a == b):=rfl;rw[hc];clear hc;go_enter Tryz.func223,Tryz.ntmps223;go_wp2_with fail;refine(aDD _).mono ?_;rintro e w2 ⟨rfl,hb⟩;go_wp2;go_ret;exact⟨rfl,hb⟩
theorem aIO{w:World}(a b:Int):Calls Tryz.prog 224 #[.int .i64 a,.int .i64 b] w (pF (.int .i64 (jX 14 a b)) w):=by have hc:jX 14 a b=nS (decide (a<b)):=rfl;rw[hc];clear hc;go_enter Tryz.func224,Tryz.ntmps224;go_wp2_with fail;refine(aDD _).mono ?_;rintro e w2 ⟨rfl,hb⟩;go_wp2;go_ret;exact⟨rfl,hb⟩
theorem vD{w:World}(a b:Int):Calls Tryz.prog 225 #[.int .i64 a,.int .i64 b] w (pF (.int .i64 (jX 15 a b)) w):=by have hc:jX 15 a b=nS (decide (IntKind.u64.wrap a<IntKind.u64.wrap b)):=rfl;rw[hc];clear hc;go_enter Tryz.func225,Tryz.ntmps225;go_wp2_with fail;refine(aDD _).mono ?_;rintro e w2 ⟨rfl,hb⟩;go_wp2;go_ret;exact⟨rfl,hb⟩
end
section
open Go.RowKit
theorem Off.frozen2{S:Foot}{W W':World}(h:Off S W W'){p:Addr}(hl:p.block<W.heap.size)(hn:¬S p.block):W'.frozen? p=W.frozen? p:=World.frozen?_of_block (w:=W) (h.block p.block hl hn)
theorem Off.cell2{S:Foot}{W W':World}(h:Off S W W'){p:Addr}(hl:p.block<W.heap.size)(hn:¬S p.block):W'.cell? p=W.cell? p:=World.cell?_of_block (w:=W) (h.block p.block hl hn)
def OLis(W:World)(S:Foot)(cs:List Value)(xs:List Int):Prop:=∃v,cs=[v]/\fP W S v xs
theorem OLis.nice:Nice OLis where
 keep:=fun⟨v,e,h⟩ hk=>⟨v,e,h.keep hk⟩
 lt:=fun⟨v,e,h⟩=>h.lt
 wide:=fun⟨v,e,h⟩ hs hl=>⟨v,e,h.wide hs hl⟩
abbrev mV:=OSl OLis 22 1
theorem aM6:Elem Tryz.prog 42 22 (.slice none 0 0) 1 24:=oC Tryz.underlying42 (by kernel_rfl) rfl (by omega)
theorem mV.open{W:World}{S:Foot}{v:Value}{xs:List (List Int)}(h:mV W S v xs){n:Nat}{a:List Int}(hn:xs[n]? =some a):
  ∃(ga cap c:Nat) (ad:Option Addr),v=.slice (some ⟨ga,0,none⟩) xs.length cap/\ga<W.heap.size/\S ga/\W.cell? ⟨ga,n,none⟩=some (.slice ad a.length c)/\Ints W (.slice ad a.length c) a/\
   ∀i x,a[i]? =some x->∃g,ad=some ⟨g,0,none⟩/\S g/\g<W.heap.size/\g≠ga/\W.cell? ⟨g,i,none⟩=some (.int .i64 x)/\(∀o,W.frozen? ⟨g,o,none⟩=false)/\
    ∀y,In64 y->mV (W.setCell ⟨g,i,none⟩ (.int .i64 y)) S v (xs.set n (a.set i y)):=by
 obtain⟨cs,G,F,hp⟩:=h;have ac:=(aD.1 hn).1;obtain⟨ga,cap,hv,hG,-,-,ak,ab,hfr⟩:=hp.row.addr (by omega);obtain⟨u,hu,ho⟩:=hp.el n a hn;obtain⟨ad,c,rfl⟩:=ho.ints.form;have ai:cs[n]? =some (.slice ad a.length c):=by have h1:=kR (cs:=cs) (size:=1) (j:=n) (i:=0) (by omega);rw[hu]at h1;simpa using h1.symm
 refine⟨ga,cap,c,ad,hv,ak,hp.inG _ hG,ab n _ ai,ho.ints,fun i x hi=> ?_⟩;obtain⟨g,cap2,hg,ae,ag,aj,al,af⟩:=ho.addr hi;have e:ad=some ⟨g,0,none⟩:=by injection hg
 have ah:g≠ga:=fun e2=>hp.free n ac g ae (by rw[e2];exact hG);refine⟨g,e,hp.inF n g ac ae,ag,ah,aj,al,fun y hy=> ?_⟩;have aa:=Off.set W ⟨g,i,none⟩ (.int .i64 y);refine⟨cs,G,_,hp.put OLis.nice hn (a.set i y) (Fj:=F n) (aa.mono fun k _ hk=>by cases hk;exact .inr ae) (hp.row.off aa fun k h1 h2=>by cases h2;exact hp.free n ac _ ae h1) (fun _ _ _=>rfl) ⟨_,hu,af y hy⟩ (fun k hk=>.inl hk) S (fun k hk=>hk) (fun k hk=>hp.inF n k ac hk) (fun k hk=>by simpa [World.setCell]using hp.lt k hk)⟩
structure MachP(base bs fuel:Nat)(W:World)(bm:Nat)(s:RunS)(o:OverD)(ov av vv cv:Value)(mv:Nat)(m:List (Int×Value))(F:Nat->Foot):Prop where
 box:Box W bm #[.int .i64 o.how,.int .i64 o.value,.int .i64 o.trap,ov,av,.int .i64 s.steps,.int .i64 s.checks,vv,.pointer (some ⟨bs,0,none⟩),.int .i64 fuel,.map (some mv),cv]
 b0:∀k,F 0 k↔k=bm
 out:fP W (F 1) ov s.out
 arr:mV W (F 2) av s.arrays
 vis:fP W (F 3) vv (natI s.visits)
 mp:IMap W mv m
 m4:∀k,F 4 k↔k=mv
 val:∀id,(mget m id).getD (.int .i64 0)=.int .i64 (s.vals id)
 cel:fP W (F 5) cv s.cells
 v64:∀id,In64 (s.vals id)
 apart:∀i j,i≠j->(F i).off (F j)
 six:∀i k,F i k->i<6
 base:∀i k,F i k->base<=k
theorem MachP.lt{base bs fuel:Nat}{W:World}{bm:Nat}{s:RunS}{o:OverD}{ov av vv cv:Value}{mv:Nat}{m:List (Int×Value)}{F:Nat->Foot}(h:MachP base bs fuel W bm s o ov av vv cv mv m F){i k:Nat}(hk:F i k):k<W.heap.size:=by
 have h6:=h.six i k hk;rcases i with _|_|_|_|_|_|i
 ·rw[(h.b0 k).1 hk];exact h.box.lt
 ·exact h.out.lt k hk
 ·exact h.arr.lt k hk
 ·exact h.vis.lt k hk
 ·rw[(h.m4 k).1 hk];exact h.mp.lt
 ·exact h.cel.lt k hk
 omega
theorem MachP.keep{base bs fuel:Nat}{W W':World}{bm:Nat}{s:RunS}{o:OverD}{ov av vv cv:Value}{mv:Nat}{m:List (Int×Value)}{F:Nat->Foot}(h:MachP base bs fuel W bm s o ov av vv cv mv m F){D:Foot}(ho:Off D W W')(hD:∀i k,F i k->¬D k):MachP base bs fuel W' bm s o ov av vv cv mv m F:=
 ⟨h.box.off ho (hD 0 _ ((h.b0 _).2 rfl)),h.b0,h.out.off ho (hD 1),h.arr.off OLis.nice ho (hD 2),h.vis.off ho (hD 3),h.mp.keep (ho.block _ h.mp.lt (hD 4 _ ((h.m4 _).2 rfl))),h.m4,h.val,h.cel.off ho (hD 5),h.v64,h.apart,h.six,h.base⟩
theorem MachP.later{base bs fuel:Nat}{W W':World}{bm:Nat}{s:RunS}{o:OverD}{ov av vv cv:Value}{mv:Nat}{m:List (Int×Value)}{F:Nat->Foot}(h:MachP base bs fuel W bm s o ov av vv cv mv m F)(hb:Below W.heap.size W W'):MachP base bs fuel W' bm s o ov av vv cv mv m F:=
 h.keep (Off.of_below hb Foot.none) fun _ _ _ h=>h
theorem MachP.put{base bs fuel:Nat}{W:World}{bm:Nat}{s s':RunS}{o o':OverD}{ov av vv cv ov' av' vv' cv':Value}{mv:Nat}{m:List (Int×Value)}{F:Nat->Foot}(h:MachP base bs fuel W bm s o ov av vv cv mv m F)(i:Nat)(v:Value)
  (hb:#[Value.int .i64 o.how,.int .i64 o.value,.int .i64 o.trap,ov,av,.int .i64 s.steps,.int .i64 s.checks,vv,.pointer (some ⟨bs,0,none⟩),.int .i64 fuel,.map (some mv),cv].setIfInBounds i v=#[.int .i64 o'.how,.int .i64 o'.value,.int .i64 o'.trap,ov',av',.int .i64 s'.steps,.int .i64 s'.checks,vv',.pointer (some ⟨bs,0,none⟩),.int .i64 fuel,.map (some mv),cv'])
  (ho:fP W (F 1) ov' s'.out) (ha:mV W (F 2) av' s'.arrays) (hv:fP W (F 3) vv' (natI s'.visits)) (hc:fP W (F 5) cv' s'.cells) (hs:s'.vals=s.vals):MachP base bs fuel (W.setCell ⟨bm,i,none⟩ v) bm s' o' ov' av' vv' cv' mv m F:=by
 have aa:=Off.set W ⟨bm,i,none⟩ v;have ab:∀j k,j≠0->F j k->¬Foot.one bm k:=fun j k hj hk e=>h.apart j 0 hj k hk ((h.b0 k).2 e);have ac:=h.box.set i v;rw[hb]at ac;exact⟨ac,h.b0,ho.off aa (fun k=>ab 1 k (by omega)),ha.off OLis.nice aa (fun k=>ab 2 k (by omega)),hv.off aa (fun k=>ab 3 k (by omega)),h.mp.keep (aa.block _ h.mp.lt (ab 4 _ (by omega) ((h.m4 _).2 rfl))),h.m4,by rw[hs];exact h.val,hc.off aa (fun k=>ab 5 k (by omega)),by rw[hs];exact h.v64,h.apart,h.six,h.base⟩
def newF(F:Nat->Foot)(i:Nat)(G:Foot)(j:Nat):Foot:=if j=i then G else F j
theorem oY(F:Nat->Foot)(i:Nat)(G:Foot):newF F i G i=G:=by unfold newF;rw[if_pos rfl]
theorem iV(F:Nat->Foot)(i:Nat)(G:Foot){j:Nat}(h:j≠i):newF F i G j=F j:=by unfold newF;rw[if_neg h]
theorem qB{F:Nat->Foot}{i:Nat}{G:Foot}{n:Nat}(h:∀i j,i≠j->(F i).off (F j))(hl:∀i k,F i k->k<n)(hG:∀k,G k->F i k\/n<=k):∀a b,a≠b->(newF F i G a).off (newF F i G b):=by
 intro a b aa k h1 h2;unfold newF at h1 h2;by_cases ha:a=i
 ·rw[if_pos ha]at h1;rw[if_neg (fun e=>aa (ha.trans e.symm))]at h2;rcases hG k h1 with h3|h3
  ·exact h i b (fun e=>aa (ha.trans e)) k h3 h2
  have:=hl b k h2;omega
 rw[if_neg ha]at h1;by_cases hb:b=i
 ·rw[if_pos hb]at h2;rcases hG k h2 with h3|h3
  ·exact h a i ha k h1 h3
  have:=hl a k h1;omega
 rw[if_neg hb]at h2;exact h a b aa k h1 h2
theorem MachP.turn{base bs fuel:Nat}{W W':World}{bm:Nat}{s s':RunS}{o:OverD}{ov av vv cv:Value}{mv:Nat}{m m':List (Int×Value)}{F:Nat->Foot}(h:MachP base bs fuel W bm s o ov av vv cv mv m F)(i:Nat)(hi:i<6)(h0:i≠0){G:Foot}(ho:Off (F i) W W')(hG:∀k,G k->F i k\/W.heap.size<=k)(hB:base<=W.heap.size)(h4:i=4->∀k,G k↔k=mv)
  (hst:s'.steps=s.steps/\s'.checks=s.checks)
  (h1:if i=1 then fP W' G ov s'.out else s'.out=s.out) (h2:if i=2 then mV W' G av s'.arrays else s'.arrays=s.arrays) (h3:if i=3 then fP W' G vv (natI s'.visits) else s'.visits=s.visits) (h5:if i=5 then fP W' G cv s'.cells else s'.cells=s.cells)
  (hm:if i=4 then IMap W' mv m'/\(∀id,(mget m' id).getD (.int .i64 0)=.int .i64 (s'.vals id))/\(∀id,In64 (s'.vals id)) else m'=m/\s'.vals=s.vals):MachP base bs fuel W' bm s' o ov av vv cv mv m' (newF F i G):=by
 have aa:∀j,j≠i->(F j).off (F i):=fun j hj=>h.apart j i hj;refine⟨by rw[hst.1,hst.2];exact h.box.off ho (fun e=>h.apart 0 i (Ne.symm h0) _ ((h.b0 _).2 rfl) e),by rw[iV F i G (Ne.symm h0)];exact h.b0, ?_, ?_, ?_, ?_, ?_, ?_, ?_, ?_,qB h.apart (fun _ _ hk=>h.lt hk) hG, ?_, ?_⟩
 ·by_cases e:i=1
  ·rw[if_pos e]at h1;subst e;rw[oY];exact h1
  rw[if_neg e]at h1;rw[iV F i G (Ne.symm e),h1];exact h.out.off ho (aa 1 (Ne.symm e))
 ·by_cases e:i=2
  ·rw[if_pos e]at h2;subst e;rw[oY];exact h2
  rw[if_neg e]at h2;rw[iV F i G (Ne.symm e),h2];exact h.arr.off OLis.nice ho (aa 2 (Ne.symm e))
 ·by_cases e:i=3
  ·rw[if_pos e]at h3;subst e;rw[oY];exact h3
  rw[if_neg e]at h3;rw[iV F i G (Ne.symm e),h3];exact h.vis.off ho (aa 3 (Ne.symm e))
 ·by_cases e:i=4
  ·rw[if_pos e]at hm;exact hm.1
  rw[if_neg e]at hm;rw[hm.1];exact h.mp.keep (ho.block _ h.mp.lt (fun hk=>h.apart 4 i (Ne.symm e) _ ((h.m4 _).2 rfl) hk))
 ·by_cases e:i=4
  ·subst e;rw[oY];exact h4 rfl
  rw[iV F i G (Ne.symm e)];exact h.m4
 ·by_cases e:i=4
  ·rw[if_pos e]at hm;exact hm.2.1
  rw[if_neg e]at hm;rw[hm.1,hm.2];exact h.val
 ·by_cases e:i=5
  ·rw[if_pos e]at h5;subst e;rw[oY];exact h5
  rw[if_neg e]at h5;rw[iV F i G (Ne.symm e),h5];exact h.cel.off ho (aa 5 (Ne.symm e))
 ·by_cases e:i=4
  ·rw[if_pos e]at hm;exact hm.2.2
  rw[if_neg e]at hm;rw[hm.2];exact h.v64
 ·intro j k hk;unfold newF at hk;by_cases e:j=i
  ·omega
  rw[if_neg e]at hk;exact h.six j k hk
 ·intro j k hk;unfold newF at hk;by_cases e:j=i
  ·rw[if_pos e]at hk;rcases hG k hk with h9|h9
   ·exact h.base i k h9
   omega
  rw[if_neg e]at hk;exact h.base j k hk
def Mach(base bs fuel:Nat)(W:World)(bm:Nat)(D:Foot)(s:RunS):Prop:=∃(ov av vv cv:Value) (mv:Nat) (m:List (Int×Value)) (F:Nat->Foot),MachP base bs fuel W bm s ⟨0,0,0⟩ ov av vv cv mv m F/\∀k,D k↔∃i,F i k
theorem MachP.mach{base bs fuel:Nat}{W:World}{bm:Nat}{s:RunS}{ov av vv cv:Value}{mv:Nat}{m:List (Int×Value)}{F:Nat->Foot}(h:MachP base bs fuel W bm s ⟨0,0,0⟩ ov av vv cv mv m F):Mach base bs fuel W bm (fun k=>∃i,F i k) s:=⟨ov,av,vv,cv,mv,m,F,h,fun _=>Iff.rfl⟩
theorem Mach.lt{base bs fuel:Nat}{W:World}{bm:Nat}{D:Foot}{s:RunS}(h:Mach base bs fuel W bm D s):∀k,D k->k<W.heap.size:=fun k hk=>by obtain⟨_,_,_,_,_,_,F,hp,hD⟩:=h;obtain⟨i,hi⟩:=(hD k).1 hk;exact hp.lt hi
theorem Mach.base{base bs fuel:Nat}{W:World}{bm:Nat}{D:Foot}{s:RunS}(h:Mach base bs fuel W bm D s):∀k,D k->base<=k:=fun k hk=>by obtain⟨_,_,_,_,_,_,F,hp,hD⟩:=h;obtain⟨i,hi⟩:=(hD k).1 hk;exact hp.base i k hi
theorem Mach.keep{base bs fuel:Nat}{W W':World}{bm:Nat}{D:Foot}{s:RunS}(h:Mach base bs fuel W bm D s){E:Foot}(ho:Off E W W')(hE:D.off E):Mach base bs fuel W' bm D s:=by obtain⟨ov,av,vv,cv,mv,m,F,hp,hD⟩:=h;exact⟨ov,av,vv,cv,mv,m,F,hp.keep ho (fun i k hk=>hE k ((hD k).2 ⟨i,hk⟩)),hD⟩
theorem Mach.later{base bs fuel:Nat}{W W':World}{bm:Nat}{D:Foot}{s:RunS}(h:Mach base bs fuel W bm D s)(hb:Below W.heap.size W W'):Mach base bs fuel W' bm D s:=h.keep (Off.of_below hb Foot.none) fun _ _ h=>h
theorem Mach.alloc{base bs fuel:Nat}{W:World}{bm:Nat}{D:Foot}{s:RunS}(h:Mach base bs fuel W bm D s)(o:Obj):Mach base bs fuel (W.alloc o) bm D s:=h.later ((Below.refl _ _).alloc (aC _) o)
def MOk(base bs fuel:Nat)(w:World)(bm:Nat)(D:Foot)(s':RunS)(w':World):Prop:=∃D',Mach base bs fuel w' bm D' s'/\Off D w w'/\∀k,D' k->D k\/w.heap.size<=k
theorem MOk.of{base bs fuel:Nat}{W W':World}{bm:Nat}{s':RunS}{ov' av' vv' cv':Value}{mv':Nat}{m':List (Int×Value)}{F F':Nat->Foot}{D:Foot}(hD:∀k,D k↔∃i,F i k)
  (h':MachP base bs fuel W' bm s' ⟨0,0,0⟩ ov' av' vv' cv' mv' m' F') (ho:Off (fun k=>∃i,F i k) W W') (hF:∀i k,F' i k->F i k\/W.heap.size<=k):MOk base bs fuel W bm D s' W':=
 ⟨_,h'.mach,ho.mono (fun k _ hk=>(hD k).2 hk),fun k ⟨i,hi⟩=>(hF i k hi).imp (fun h=>(hD k).2 ⟨i,h⟩) id⟩
theorem MOk.still{base bs fuel:Nat}{W W':World}{bm:Nat}{s:RunS}{ov av vv cv:Value}{mv:Nat}{m:List (Int×Value)}{F:Nat->Foot}{D:Foot}(hD:∀k,D k↔∃i,F i k)
  (h:MachP base bs fuel W bm s ⟨0,0,0⟩ ov av vv cv mv m F) (hb:Below W.heap.size W W'):MOk base bs fuel W bm D s W':=MOk.of hD (h.later hb) (Off.of_below hb _) fun _ _ hk=>.inl hk
theorem MOk.same{base bs fuel:Nat}{w:World}{bm:Nat}{D:Foot}{s:RunS}(h:Mach base bs fuel w bm D s){w':World}(hb:Below w.heap.size w w'):MOk base bs fuel w bm D s w':=⟨D,h.later hb,Off.of_below hb D,fun _ h=>.inl h⟩
theorem MOk.trans{base bs fuel:Nat}{w w1 w2:World}{bm:Nat}{D D1:Foot}{s:RunS}(h1:Off D w w1)(hD:∀k,D1 k->D k\/w.heap.size<=k)(h2:MOk base bs fuel w1 bm D1 s w2):MOk base bs fuel w bm D s w2:=by
 obtain⟨D2,m2,o2,d2⟩:=h2;refine⟨D2,m2,Off.grow h1 o2 hD,fun k hk=> ?_⟩;rcases d2 k hk with h|h
 ·exact hD k h
 exact .inr (aT h1.size h)
def mC(o:OverD):Ending:=.panicked [{ v:=.iface 161 (.agg #[.int .i64 o.how,.int .i64 o.value,.int .i64 o.trap]),recovered:=false }]
theorem endC{w:World}(e:Int):Calls Tryz.prog 186 #[.int .i64 e] w fun r w'=>r=mC ⟨e,0,0⟩/\Below w.heap.size w w':=by go_enter Tryz.func186,Tryz.ntmps186;go_wp2;exact⟨rfl,rfl,Below.refl _ _⟩
theorem aG4{w:World}(e:Int):Calls Tryz.prog 148 #[.int .i64 e] w fun r w'=>r=mC ⟨2,0,e⟩/\Below w.heap.size w w':=by go_enter Tryz.func148,Tryz.ntmps148;go_wp2;exact⟨rfl,rfl,Below.refl _ _⟩
def ResR(base bs fuel:Nat)(w:World)(bm:Nat)(D:Foot){α:Type}(val:α->Value)(r:Res α)(e:Ending)(w':World):Prop:=match r with
 | .go a s'=>e=.returned (val a)/\MOk base bs fuel w bm D s' w'
 | .over o s'=>e=mC o/\MOk base bs fuel w bm D s' w'
def aM7(_:Unit):Value:=.tuple #[]
def intV(n:Int):Value:=.int .i64 n
theorem aL1{base bs fuel bm:Nat}{w:World}{D:Foot}{s:RunS}(hM:Mach base bs fuel w bm D s)(hfu:fuel<=200000)(hst:s.steps<=fuel):
  Calls Tryz.prog 146 #[.pointer (some ⟨bm,0,none⟩)] w (ResR base bs fuel w bm D aM7 (mB fuel s)):=by
 obtain⟨ov,av,vv,cv,mv,m,F,hP,hD⟩:=hM;have HP:=h! hP;have HD:=h! hD;have BM:=h! hP.box;clear hP hD;by_cases hs:s.steps=fuel
 ·have HR:Hid (mB fuel s=.over ⟨3,0,0⟩ s):=h! (by unfold mB;rw[if_pos hs]);have ht:(((s.steps:Nat):Int) == (fuel:Int))=true:=by rw[hs];simp
  rw[HR.out];clear hs hst hfu;go_enter Tryz.func146,Tryz.ntmps146;go_upto_region 0 with(fail);obtain⟨lm,cm,fm⟩:=BM.out;go_quiet (fail);clear cm fm ht;have ab:=fS (Below.refl w.heap.size w) nq;go_wp2_with fail;refine(endC 3).mono ?_;rintro e w1 ⟨rfl,hb⟩;unfold mC;go_wp2;exact⟨rfl,rfl,MOk.still HD.out HP.out (ab.trans (hb.mono ab.size))⟩
 ·have HR:Hid (mB fuel s=.go () { s with steps:=s.steps+1 }):=h! (by unfold mB;rw[if_neg hs]);have ht:(((s.steps:Nat):Int) == (fuel:Int))=false:=by simp only[beq_eq_false_iff_ne,ne_eq];omega
  have hadd:IntKind.i64.wrap (((s.steps:Nat):Int)+1)=((s.steps+1:Nat):Int):=by rw[nK ⟨by omega,by omega⟩];omega
  rw[HR.out];clear hs;go_enter Tryz.func146,Tryz.ntmps146;go_upto_region 0 with(fail);obtain⟨lm,cm,fm⟩:=BM.out;go_quiet (fail);clear cm fm ht;have ab:=fS (Below.refl w.heap.size w) nq;have aa:=h! (HP.later ab);generalize w.drewN nq=w1 at*;obtain⟨lm1,ac,ad⟩:=aa.box;go_wp2;clear ac ad;refine bodyPost_end (v:=.tuple #[]) (by simp[results,Tryz.results146,go_sem, *]) rfl ⟨rfl, ?_⟩;refine MOk.of HD.out (aa.put (s':={ s with steps:=s.steps+1 }) (o':=⟨0,0,0⟩) 5 (.int .i64 ((s.steps+1:Nat):Int)) rfl aa.out.out aa.arr aa.vis aa.cel rfl) ?_ (fun i k hk=>.inl hk);exact(Off.of_below ab _).trans ((Off.set w1 ⟨bm,5,none⟩ _).mono fun k _ hk=>⟨0,(aa.b0 k).2 hk⟩)
def oP(look:Bool)(s:RunS):RunS:=if look then { s with checks:=s.checks+1 } else s
def aJM(look:Bool):OverD:=if look then ⟨2,0,-2⟩ else ⟨5,0,0⟩
def MAt(w:World)(bm n g:Nat):Prop:=∃(ga len cap al c:Nat),w.cell? ⟨bm,4,none⟩=some (.slice (some ⟨ga,0,none⟩) len cap)/\w.cell? ⟨ga,n,none⟩=some (.slice (some ⟨g,0,none⟩) al c)
theorem MAt.one{w:World}{bm n g g':Nat}(h:MAt w bm n g)(h':MAt w bm n g'):g=g':=by
 obtain⟨ga,len,cap,al,c,h1,h2⟩:=h;obtain⟨aa,len',cap',al',c',h3,h4⟩:=h';rw[h1]at h3;obtain rfl:ga=aa:=by injection h3 with h3;injection h3 with q1;injection q1 with q1;injection q1
 rw[h2]at h4;injection h4 with h4;injection h4 with q1;injection q1 with q1;injection q1
theorem MAt.below{w w':World}{bm n g:Nat}(h:MAt w bm n g)(hb:Below w.heap.size w w'):MAt w' bm n g:=by obtain⟨ga,len,aa,al,c,h1,h2⟩:=h;exact⟨ga,len,aa,al,c,(hb.cell (World.block_lt_of_cell? w _ h1)).trans h1,(hb.cell (World.block_lt_of_cell? w _ h2)).trans h2⟩
def aM8(base bs fuel:Nat)(w:World)(bm:Nat)(D:Foot)(n:Nat)(a:List Int)(i:Int)(look:Bool)(s:RunS)(e:Ending)(w':World):Prop:=
 ((i<0\/(a.length:Int)<=i)/\e=mC (aJM look)/\MOk base bs fuel w bm D (oP look s) w')\/
 ∃(j g:Nat) (x:Int),i=j/\a[j]? =some x/\e=.returned (.pointer (some ⟨g,j,none⟩))/\MAt w bm n g/\D g/\MOk base bs fuel w bm D (oP look s) w'/\w'.cell? ⟨g,j,none⟩=some (.int .i64 x)/\w'.frozen? ⟨g,j,none⟩=false/\
  ∀W y,Below w'.heap.size w' W->In64 y->MOk base bs fuel w bm D { oP look s with arrays:=s.arrays.set n (a.set j y) } (W.setCell ⟨g,j,none⟩ (.int .i64 y))
theorem aBA{base bs fuel bm:Nat}{w:World}{D:Foot}{s:RunS}(hM:Mach base bs fuel w bm D s)(hB:base<=w.heap.size)(hck:s.checks<=200000){n:Nat}{a:List Int}(hn:s.arrays[n]? =some a)(ha:a.length<=4096)(i:Int)(hi:In64 i)(look:Bool):
  Calls Tryz.prog 187 #[.pointer (some ⟨bm,0,none⟩),.int .i64 n,.int .i64 i,.bool look] w (aM8 base bs fuel w bm D n a i look s):=by
 obtain⟨ov,av,vv,cv,mv,m,F,hP,hD⟩:=hM;have HP:=h! hP;have HD:=h! hD;have BM:=h! hP.box;obtain⟨ga,bf,c,ad,rfl,aj,ax,ac,bg,cb⟩:=hP.arr.open hn;have cg:=(aD.1 hn).1;have bz:ga≠bm:=fun e=>hP.apart 2 0 (by omega) ga ax ((hP.b0 ga).2 e);have bO:=h! cb;have HN:=h! hn;clear hP hD cb bg ax;obtain⟨al,bx⟩:∃al,al=a.length:=⟨_,rfl⟩;obtain⟨nl,ay⟩:∃nl,nl=s.arrays.length:=⟨_,rfl⟩;have bh:=h! bx;rw[<-bx]at ac ha;rw[<-ay]at HP BM cg;clear bx hn ay;have bv:IntKind.i64.wrap (((s.checks:Nat):Int)+1)=((s.checks+1:Nat):Int):=by rw[nK ⟨by omega,by omega⟩];omega
 have HL:Hid (∃W,(if look then W=w.setCell ⟨bm,6,none⟩ (.int .i64 ((s.checks:Int)+1)) else W=w)/\Off (Foot.one bm) w W/\MachP base bs fuel W bm (oP look s) ⟨0,0,0⟩ ov (.slice (some ⟨ga,0,none⟩) nl bf) vv cv mv m F):=h! (by
  cases look
  ·exact⟨w,rfl,Off.refl _ _,HP.out⟩
  exact⟨_,rfl,Off.set w ⟨bm,6,none⟩ _,HP.put (s':={ s with checks:=s.checks+1 }) (o':=⟨0,0,0⟩) 6 (.int .i64 ((s.checks:Int)+1)) rfl HP.out.out HP.arr HP.vis HP.cel rfl⟩)
 obtain⟨W,hW,be,ca⟩:=HL.out;have aa:=h! be;have ak:=h! ca;clear be ca HL;have am:Hid (∀k,Foot.one bm k->∃i,F i k):=h! (fun k hk=>⟨0,(HP.b0 k).2 hk⟩);go_enter Tryz.func187,Tryz.ntmps187;obtain⟨lm,cm,fm⟩:=BM.out;go_upto_region 2 with(fail)
 cases look
 ·obtain rfl:w=W:=hW.symm;go_upto_region 4 with(fail);clear cm fm
  cases h0:decide (i<0);rotate_left
  ·have br:i<0:=by simpa using h0
   go_wp2_with fail;refine(endC 5).mono ?_;rintro e w1 ⟨rfl,hb⟩;unfold mC;go_wp2;exact⟨rfl,.inl ⟨.inl br,rfl,MOk.of HD.out (ak.later hb) (Off.trans (aa.mono fun k _ hk=>am k hk) (Off.of_below hb _)) (fun i k hk=>.inl hk)⟩⟩
  have ce:0<=i:=by simp at h0;omega
  cases h1:decide ((al:Int)<=i);rotate_left
  ·have bo:(a.length:Int)<=i:=by rw[<-bh.out];simpa using h1
   go_wp2_with fail;refine(endC 5).mono ?_;rintro e w1 ⟨rfl,hb⟩;unfold mC;go_wp2;exact⟨rfl,.inl ⟨.inr bo,rfl,MOk.of HD.out (ak.later hb) (Off.trans (aa.mono fun k _ hk=>am k hk) (Off.of_below hb _)) (fun i k hk=>.inl hk)⟩⟩
  obtain⟨j,rfl⟩:∃j:Nat,i=j:=⟨i.toNat,by omega⟩;have bw:j<al:=by simp at h1;omega
  obtain⟨x,hx⟩:∃x,a[j]? =some x:=⟨_,aA (by rw[<-bh.out];exact bw)⟩;obtain⟨g,rfl,ao,bd,cc,bc,bb,-⟩:=bO.out j x hx;have HX:=h! hx;have aq:¬Foot.one bm g:=fun e=>HP.apart 2 0 (by omega) g ao ((HP.b0 g).2 e);have bj:Hid (MAt w bm n g):=h! ⟨ga,nl,bf,al,c,BM.at 4 rfl,ac⟩;have bl:=h! ((aa.cell2 (p:=⟨g,j,none⟩) bd aq).trans bc);have bi:=h! ((aa.frozen2 (p:=⟨g,j,none⟩) bd aq).trans (bb j));have bq:=h! ((aa.cell2 (p:=⟨ga,n,none⟩) aj bz).trans ac);have ap:=h! ao;clear hx bc bb aq ao ac;go_wp2;go_ret;refine .inr ⟨j,g,x,rfl,HX.out,rfl,bj.out,(HD g).2 ⟨2,ap.out⟩,MOk.of HD.out ak.out (aa.mono fun k _ hk=>am k hk) (fun i k hk=>.inl hk),bl.out,bi.out,fun W' y hb hy=> ?_⟩;have ba:=ak.later hb;have bp:(oP false s).arrays=s.arrays:=rfl;obtain⟨bn,ar,c2,cd,bt,az,-,af,-,an⟩:=ba.arr.open (n:=n) (a:=a) HN.out;obtain⟨rfl,-⟩:ga=bn/\bf=ar:=by injection bt with q1 q2 q3;injection q1 with q1;injection q1 with q1;exact⟨q1,q3⟩
  have aw:ga<w.heap.size:=bD aj aa.size;have ab:=(hb.cell (p:=⟨ga,n,none⟩) aw).trans bq.out;rw[af]at ab;obtain⟨g3,e3,ch,cf,bk,-,-,ah⟩:=an j x HX.out;obtain rfl:g=g3:=by rw[e3]at ab;injection ab with q;injection q with q1 q2 q3;injection q1 with q1;injection q1 with q1;exact q1.symm
  have ae:=Off.set W' ⟨g,j,none⟩ (.int .i64 y);have ag:base<=W'.heap.size:=aT hB (aT aa.size hb.size);refine MOk.of (F':=newF F 2 (F 2)) HD.out (ba.turn 2 (by omega) (by omega) (s':={ oP false s with arrays:=s.arrays.set n (a.set j y) }) (G:=F 2) (ae.mono fun k _ hk=>by cases hk;exact ap) (fun k hk=>.inl hk) ag (fun e=>by omega) ⟨rfl,rfl⟩ (by rw[if_neg (by omega)]) (by rw[if_pos rfl];exact ah y hy) (by rw[if_neg (by omega)]) (by rw[if_neg (by omega)]) (by rw[if_neg (by omega)];exact⟨rfl,rfl⟩)) ?_ (fun i k hk=> ?_)
  ·exact((aa.mono fun k _ hk=>am k hk).trans (Off.of_below hb _)).trans (ae.mono fun k _ hk=>by cases hk;exact⟨2,ap.out⟩)
  unfold newF at hk;split at hk
  ·rename_i e;subst e;exact .inl hk
  exact .inl hk
 ·obtain rfl:W=w.setCell ⟨bm,6,none⟩ (.int .i64 ((s.checks:Int)+1)):=hW;go_upto_region 4 with(fail);clear cm fm bv;generalize w.setCell ⟨bm,6,none⟩ (.int .i64 ((s.checks:Int)+1))=W at*
  cases h0:decide (i<0);rotate_left
  ·have br:i<0:=by simpa using h0
   go_wp2_with fail;refine(aG4 (-2)).mono ?_;rintro e w1 ⟨rfl,hb⟩;unfold mC;go_wp2;exact⟨rfl,.inl ⟨.inl br,rfl,MOk.of HD.out (ak.later hb) (Off.trans (aa.mono fun k _ hk=>am k hk) (Off.of_below hb _)) (fun i k hk=>.inl hk)⟩⟩
  have ce:0<=i:=by simp at h0;omega
  cases h1:decide ((al:Int)<=i);rotate_left
  ·have bo:(a.length:Int)<=i:=by rw[<-bh.out];simpa using h1
   go_wp2_with fail;refine(aG4 (-2)).mono ?_;rintro e w1 ⟨rfl,hb⟩;unfold mC;go_wp2;exact⟨rfl,.inl ⟨.inr bo,rfl,MOk.of HD.out (ak.later hb) (Off.trans (aa.mono fun k _ hk=>am k hk) (Off.of_below hb _)) (fun i k hk=>.inl hk)⟩⟩
  obtain⟨j,rfl⟩:∃j:Nat,i=j:=⟨i.toNat,by omega⟩;have bw:j<al:=by simp at h1;omega
  obtain⟨x,hx⟩:∃x,a[j]? =some x:=⟨_,aA (by rw[<-bh.out];exact bw)⟩;obtain⟨g,rfl,ao,bd,cc,bc,bb,-⟩:=bO.out j x hx;have HX:=h! hx;have aq:¬Foot.one bm g:=fun e=>HP.apart 2 0 (by omega) g ao ((HP.b0 g).2 e);have bj:Hid (MAt w bm n g):=h! ⟨ga,nl,bf,al,c,BM.at 4 rfl,ac⟩;have bl:=h! ((aa.cell2 (p:=⟨g,j,none⟩) bd aq).trans bc);have bi:=h! ((aa.frozen2 (p:=⟨g,j,none⟩) bd aq).trans (bb j));have bq:=h! ((aa.cell2 (p:=⟨ga,n,none⟩) aj bz).trans ac);have ap:=h! ao;clear hx bc bb aq ao ac;go_wp2;go_ret;refine .inr ⟨j,g,x,rfl,HX.out,rfl,bj.out,(HD g).2 ⟨2,ap.out⟩,MOk.of HD.out ak.out (aa.mono fun k _ hk=>am k hk) (fun i k hk=>.inl hk),bl.out,bi.out,fun W' y hb hy=> ?_⟩;have ba:=ak.later hb;have bp:(oP true s).arrays=s.arrays:=rfl;obtain⟨bn,ar,c2,cd,bt,az,-,af,-,an⟩:=ba.arr.open (n:=n) (a:=a) HN.out;obtain⟨rfl,-⟩:ga=bn/\bf=ar:=by injection bt with q1 q2 q3;injection q1 with q1;injection q1 with q1;exact⟨q1,q3⟩
  have aw:ga<W.heap.size:=bD aj aa.size;have ab:=(hb.cell (p:=⟨ga,n,none⟩) aw).trans bq.out;rw[af]at ab;obtain⟨g3,e3,ch,cf,bk,-,-,ah⟩:=an j x HX.out;obtain rfl:g=g3:=by rw[e3]at ab;injection ab with q;injection q with q1 q2 q3;injection q1 with q1;injection q1 with q1;exact q1.symm
  have ae:=Off.set W' ⟨g,j,none⟩ (.int .i64 y);have ag:base<=W'.heap.size:=aT hB (aT aa.size hb.size);refine MOk.of (F':=newF F 2 (F 2)) HD.out (ba.turn 2 (by omega) (by omega) (s':={ oP true s with arrays:=s.arrays.set n (a.set j y) }) (G:=F 2) (ae.mono fun k _ hk=>by cases hk;exact ap) (fun k hk=>.inl hk) ag (fun e=>by omega) ⟨rfl,rfl⟩ (by rw[if_neg (by omega)]) (by rw[if_pos rfl];exact ah y hy) (by rw[if_neg (by omega)]) (by rw[if_neg (by omega)]) (by rw[if_neg (by omega)];exact⟨rfl,rfl⟩)) ?_ (fun i k hk=> ?_)
  ·exact((aa.mono fun k _ hk=>am k hk).trans (Off.of_below hb _)).trans (ae.mono fun k _ hk=>by cases hk;exact⟨2,ap.out⟩)
  unfold newF at hk;split at hk
  ·rename_i e;subst e;exact .inl hk
  exact .inl hk
end
end Go.Proofs.YtagabiidbbhhmaaGreat
