/- Part 55. -/
import Derived.Test.YtagabiidbbhhmaaGreatET53
namespace Go.Proofs.YtagabiidbbhhmaaGreat
set_option linter.all false
set_option maxRecDepth 100000
section
open Go.RowKit
def qS(W:World)(v:Value)(x:InstrD):Prop:=∃u,v=.agg #[.int .i64 x.op,.int .i64 x.id,u,.int .i64 x.n]/\Ints W u x.args
theorem qS.below{W W':World}{v:Value}{x:InstrD}(h:qS W v x)(hb:Below W.heap.size W W'):qS W' v x:=let ⟨u,e,k⟩:=h; ⟨u,e,k.below hb⟩
structure RunOk(ar ce:Int)(s:RunS):Prop where
 al:s.arrays.length=ar.toNat
 cl:s.cells.length=ce.toNat
 len:∀a∈s.arrays,a.length<=4096
 out:s.out.length<=4096
 chk:s.checks<=200000
structure InsOk(ar ce:Int)(x:InstrD):Prop where
 shp:(shp x.op).isSome=true
 args:x.args.length=(shp0 x.op).args.length
 n:nOk ar ce (shp0 x.op).n x.n=true
theorem rU{ar ce n:Int}(h:nOk ar ce 3 n=true):0<=n/\n<ar:=by unfold nOk topN at h;simp at h;omega
theorem aIS{ar ce n:Int}(h:nOk ar ce 4 n=true):0<=n/\n<ce:=by unfold nOk topN at h;simp at h;omega
theorem zH{op:Int}(h:(shp op).isSome=true):op=1\/op=2\/op=18\/op=19\/op=21\/op=20\/op=22\/op=23\/op=24\/op=25\/(3<=op/\op<=17):=by
 refine Classical.byContradiction fun hn=> ?_;unfold shp at h;rw[if_neg (by omega),if_neg (by omega),if_neg (by omega),if_neg (by omega),if_neg (by omega),if_neg (by omega),if_neg (by omega),if_neg (by omega),if_neg (by omega),if_neg (by omega),if_neg (by omega),if_neg (by omega)]at h
 cases h
theorem aJW(op:Int):(shp0 op).args.length<=3:=by
 have aa:∀(c:Prop) [Decidable c] (a b:Option Shp),(a.getD ⟨0,[],0⟩).args.length<=3->(b.getD ⟨0,[],0⟩).args.length<=3->((if c then a else b).getD ⟨0,[],0⟩).args.length<=3:=by
  intro c _ a b ha hb;split
  ·exact ha
  exact hb
 unfold shp0 shp;iterate 12 (refine aa _ _ _ (by decide) ?_)
 decide
theorem aEN{op id n:Int}{args:List Int}{s:RunS}(h:op=18){nn:Nat}(hn:n=nn){a:List Int}(ha:s.arrays[nn]? =some a):gG ⟨op,id,args,n⟩ s=.go a.length s:=by subst h;subst hn;unfold gG;simp[aH,ha]
theorem vZ{op n i:Int}{s:RunS}{nn:Nat}(hn:n=nn){a:List Int}(ha:s.arrays[nn]? =some a)(h:i<0\/(a.length:Int)<=i):lW op n i s=.over (aAU op) (jJ op s):=by subst hn;unfold lW;rw[if_pos];simpa [List.getD_eq_getElem?_getD,ha]using h
theorem aEO{op n i:Int}{s:RunS}{nn:Nat}(hn:n=nn){a:List Int}(ha:s.arrays[nn]? =some a)(h:¬(i<0\/(a.length:Int)<=i)):lW op n i s=.go () (jJ op s):=by subst hn;unfold lW;rw[if_neg];simpa [List.getD_eq_getElem?_getD,ha]using h
theorem kE(op:Int)(s:RunS):(jJ op s).arrays=s.arrays:=by unfold jJ;split<;>rfl
theorem tG{op id n:Int}{args:List Int}{s:RunS}(h:op=19\/op=21){nn:Nat}(hn:n=nn){a:List Int}(ha:s.arrays[nn]? =some a){y:Int}(hy:(args.map s.vals).getD 0 0=y):
  ((y<0\/(a.length:Int)<=y)->gG ⟨op,id,args,n⟩ s=.over (aAU op) (jJ op s))/\∀(j:Nat) (x:Int),y=j->a[j]? =some x->gG ⟨op,id,args,n⟩ s=.go x (jJ op s):=by
 have h0:gG ⟨op,id,args,n⟩ s=(lW op n y s).bind fun _ s1=>.go ((s1.arrays.getD n.toNat []).getD y.toNat 0) s1:=by unfold gG;simp only;rw[if_neg (by omega),if_neg (by omega),if_pos h,hy]
 constructor
 ·intro hw;rw[h0,vZ hn ha hw];rfl
 ·intro j x hj hx;have hjl:=(aD.1 hx).1;rw[h0,aEO hn ha (by omega)];show Res.go (((jJ op s).arrays.getD n.toNat []).getD y.toNat 0) (jJ op s)=_;rw[kE];subst hn;subst hj;simp[aH,ha,hx]
theorem aEP{α:Type}{l:List α}{i:Nat}{x:α}(g:α->α)(h:l[i]? =some x):l.modify i g=l.set i (g x):=tK g h
theorem rV{op id n:Int}{args:List Int}{s:RunS}(h:op=20\/op=22){nn:Nat}(hn:n=nn){a:List Int}(ha:s.arrays[nn]? =some a){y z:Int}(hy:(args.map s.vals).getD 0 0=y)(hz:(args.map s.vals).getD 1 0=z):
  ((y<0\/(a.length:Int)<=y)->gG ⟨op,id,args,n⟩ s=.over (aAU op) (jJ op s))/\∀(j:Nat),y=j->j<a.length->gG ⟨op,id,args,n⟩ s=.go 0 { jJ op s with arrays:=s.arrays.set nn (a.set j z) }:=by
 have h0:gG ⟨op,id,args,n⟩ s=(lW op n y s).bind fun _ s1=>.go 0 { s1 with arrays:=s1.arrays.modify n.toNat fun a=>a.set y.toNat z }:=by unfold gG;simp only;rw[if_neg (by omega),if_neg (by omega),if_neg (by omega),if_pos h,hy,hz]
 constructor
 ·intro hw;rw[h0,vZ hn ha hw];rfl
 ·intro j hj hx;rw[h0,aEO hn ha (by omega)];show Res.go 0 { jJ op s with arrays:=(jJ op s).arrays.modify n.toNat fun a=>a.set y.toNat z }=_;rw[kE];subst hn;subst hj;rw[bW,bW,aEP _ ha]
theorem aEQ{id n:Int}{args:List Int}{s:RunS}{y:Int}(hy:(args.map s.vals).getD 0 0=y):gG ⟨23,id,args,n⟩ s=if s.out.length=4096 then .over ⟨4,0,0⟩ s else .go 0 { s with out:=s.out++[y] }:=by unfold gG;simp only;rw[if_neg (by omega),if_neg (by omega),if_neg (by omega),if_neg (by omega),if_pos trivial,hy]
theorem aER{id n:Int}{args:List Int}{s:RunS}{nn:Nat}(hn:n=nn){z:Int}(hz:s.cells[nn]? =some z):gG ⟨24,id,args,n⟩ s=.go z s:=by subst hn;unfold gG;simp[aH,hz]
theorem aES{id n:Int}{args:List Int}{s:RunS}{nn:Nat}(hn:n=nn){y:Int}(hy:(args.map s.vals).getD 0 0=y):gG ⟨25,id,args,n⟩ s=.go 0 { s with cells:=s.cells.set nn y }:=by subst hn;unfold gG;simp only;rw[if_neg (by omega),if_neg (by omega),if_neg (by omega),if_neg (by omega),if_neg (by omega),if_neg (by omega),if_pos trivial,hy];simp
theorem tH{op id n:Int}{args:List Int}{s:RunS}(h:3<=op/\op<=17):gG ⟨op,id,args,n⟩ s=if pZ op (args.map s.vals)≠0 then .over ⟨2,0,-1⟩ s else .go (oO op (args.map s.vals)) s:=by unfold gG;simp only;rw[if_neg (by omega),if_neg (by omega),if_neg (by omega),if_neg (by omega),if_neg (by omega),if_neg (by omega),if_neg (by omega)]
structure GoodS(f:FuncD)(fuel:Nat)(s:RunS):Prop where
 al:s.arrays.length=f.arrays.toNat
 cl:s.cells.length=f.cells.toNat
 len:∀a∈s.arrays,a.length<=4096
 out:s.out.length<=4096
 chk:s.checks<=s.steps
 stp:s.steps<=fuel
 vis:s.visits.length=f.blocks.length
 flag:∀id,tyOf (fX f) id=some 2->s.vals id=0\/s.vals id=1
theorem GoodS.run{f:FuncD}{fuel:Nat}{s:RunS}(h:GoodS f fuel s)(hf:fuel<=200000):RunOk f.arrays f.cells s:=⟨h.al,h.cl,h.len,h.out,by have:=h.chk;have:=h.stp;omega⟩
theorem GoodS.step{f:FuncD}{fuel:Nat}{s s1:RunS}(h:GoodS f fuel s)(hs:mB fuel s=.go () s1):s1={ s with steps:=s.steps+1 }/\GoodS f fuel s1/\s1.checks+1<=s1.steps:=by
 unfold mB at hs;split at hs
 ·cases hs
 rename_i hne;injection hs with _ hs;subst hs;have:=h.stp;have:=h.chk;exact⟨rfl,⟨h.al,h.cl,h.len,h.out,by show s.checks<=s.steps+1;omega,by show s.steps+1<=fuel;omega,h.vis,h.flag⟩,by show s.checks+1<=s.steps+1;omega⟩
theorem mW(b:Bool):nS b=0\/nS b=1:=by cases b<;>simp[nS]
theorem aET{op:Int}{a:List Int}(h:op=13\/op=14\/op=15\/op=16):oO op a=0\/oO op a=1:=by
 unfold oO;split
 ·exact .inl rfl
 split
 ·exact mW _
 rw[if_neg (by omega),if_neg (by omega)];unfold jX;rw[if_neg (by omega),if_neg (by omega),if_neg (by omega),if_neg (by omega),if_neg (by omega),if_neg (by omega),if_neg (by omega),if_neg (by omega),if_neg (by omega),if_neg (by omega)];split
 ·exact mW _
 split
 ·exact mW _
 exact mW _
theorem aJX{op:Int}(h:(shp0 op).result=2):op=2\/op=13\/op=14\/op=15\/op=16:=by
 refine Classical.byContradiction fun hn=> ?_;have hs:(shp op).isSome=true:=by
  cases hs:shp op with
  | none=>unfold shp0 at h;rw[hs]at h;simp at h
  | some _=>rfl
 have aa:∀(op:Int),(3<=op/\op<=12)\/op=17->(shp0 op).result=1:=fun op h=>by
  unfold shp0 shp;rcases h with h|rfl
  ·rw[if_neg (by omega),if_neg (by omega),if_neg (by omega),if_neg (by omega),if_neg (by omega),if_neg (by omega),if_neg (by omega),if_neg (by omega),if_neg (by omega),if_neg (by omega),if_neg (by omega),if_pos h];rfl
  rfl
 rcases zH hs with rfl|rfl|rfl|rfl|rfl|rfl|rfl|rfl|rfl|rfl|h9
 ·revert h;decide
 ·omega
 ·revert h;decide
 ·revert h;decide
 ·revert h;decide
 ·revert h;decide
 ·revert h;decide
 ·revert h;decide
 ·revert h;decide
 ·revert h;decide
 have:=aa op (by omega);omega
theorem aEU{ar ce:Int}{x:InstrD}{s s1:RunS}{v:Int}(hx:InsOk ar ce x)(h2:(shp0 x.op).result=2)(h:gG x s=.go v s1):v=0\/v=1:=by
 obtain⟨op,id,args,n⟩:=x;simp only at h2;rcases aJX h2 with rfl|h9
 ·have hn:=hx.n;unfold gG at h;simp at h;rw[<-h.1];unfold nOk topN at hn;simp[shp0,shp]at hn;omega
 rw[tH (by omega)]at h;split at h
 ·cases h
 injection h with h _;rw[<-h];exact aET h9
theorem wA(op:Int)(s:RunS):(jJ op s).cells=s.cells/\(jJ op s).out=s.out/\(jJ op s).steps=s.steps/\(jJ op s).visits=s.visits/\(jJ op s).vals=s.vals/\(jJ op s).checks<=s.checks+1:=by
 unfold jJ;split
 ·exact⟨rfl,rfl,rfl,rfl,rfl,aC _⟩
 exact⟨rfl,rfl,rfl,rfl,rfl,by omega⟩
theorem tI(op n i:Int)(s:RunS):lW op n i s=.over (aAU op) (jJ op s)\/lW op n i s=.go () (jJ op s):=by
 unfold lW;split
 ·exact .inl rfl
 exact .inr rfl
structure After(s s1:RunS):Prop where
 al:s1.arrays.length=s.arrays.length
 cl:s1.cells.length=s.cells.length
 len:(∀a∈s.arrays,a.length<=4096)->∀a∈s1.arrays,a.length<=4096
 out:s.out.length<=4096->s1.out.length<=4096
 chk:s1.checks<=s.checks+1
 stp:s1.steps=s.steps
 vis:s1.visits=s.visits
 vals:s1.vals=s.vals
theorem After.refl(s:RunS):After s s:=⟨rfl,rfl,fun h=>h,fun h=>h,by omega,rfl,rfl,rfl⟩
theorem After.look(op:Int)(s:RunS):After s (jJ op s):=by obtain⟨h1,h2,h3,h4,h5,h6⟩:=wA op s;exact⟨by rw[kE],by rw[h1],by rw[kE];exact fun h=>h,by rw[h2];exact fun h=>h,h6,h3,h4,h5⟩
theorem rW(x:InstrD)(s:RunS):After s (gG x s).st:=by
 unfold gG;split
 ·exact After.refl s
 split
 ·exact After.refl s
 split
 ·rcases tI x.op x.n ((x.args.map s.vals).getD 0 0) s with h|h
  ·rw[h];exact After.look _ s
  rw[h];exact After.look _ s
 split
 ·rcases tI x.op x.n ((x.args.map s.vals).getD 0 0) s with h|h
  ·rw[h];exact After.look _ s
  rw[h];obtain⟨h1,h2,h3,h4,h5,h6⟩:=wA x.op s;refine⟨?_,by show(jJ x.op s).cells.length=_;rw[h1], ?_, ?_,h6,h3,h4,h5⟩
  ·show((jJ x.op s).arrays.modify _ _).length=_;rw[List.length_modify,kE]
  ·intro hl a ha;change a∈(jJ x.op s).arrays.modify _ _ at ha;rw[kE]at ha;obtain⟨i,hi⟩:=bP ha;rw[List.getElem?_modify]at hi
   cases hq:s.arrays[i]? with
   | none=>rw[hq]at hi;simp at hi
   | some b=>
    rw[hq]at hi
    have:=hl b (aG hq)
    simp at hi
    rw[<-hi]
    split
    ·rw[cQ];exact this
    exact this
  show s.out.length<=4096->(jJ x.op s).out.length<=4096;rw[h2];exact fun h=>h
 split
 ·split
  ·exact After.refl s
  rename_i hne;refine⟨rfl,rfl,fun h=>h,fun h=> ?_,by show s.checks<=s.checks+1;omega,rfl,rfl,rfl⟩;show(s.out++[_]).length<=4096;rw[aO,eC];omega
 split
 ·exact After.refl s
 split
 ·exact⟨rfl,by show(s.cells.set _ _).length=_;rw[cQ],fun h=>h,fun h=>h,by show s.checks<=s.checks+1;omega,rfl,rfl,rfl⟩
 split
 ·exact After.refl s
 exact After.refl s
theorem lY{T:List (Int×Int)}(hn:(T.map (·.1)).Nodup){id t:Int}(h:(id,t)∈T):tyOf T id=some t:=by
 cases ht:tyOf T id with
 | none=>exact absurd (aN.2 ⟨_,h,rfl⟩) (iA.1 ht)
 | some u=>
  have h2:=nJ ht
  obtain⟨i,hi⟩:=bP h
  obtain⟨j,hj⟩:=bP h2
  have h3:(T.map (·.1))[i]? =some id:=by rw[aM,hi];rfl
  have h4:(T.map (·.1))[j]? =some id:=by rw[aM,hj];rfl
  obtain⟨h5,h6⟩:=aD.1 h3
  obtain⟨h7,h8⟩:=aD.1 h4
  have:i=j:=(dP hn).1 (by rw[h6,h8])
  rw[this,hj]at hi
  injection hi with hi
  injection hi with _ hi
  rw[hi]
theorem qC{f:FuncD}(hc:fO f=0):((fX f).map (·.1)).Nodup:=oK (fT hc).2
theorem aEV{f:FuncD}(hc:fO f=0){b:BlockD}(hb:b∈f.blocks){x:InstrD}(hx:x∈b.code)(hid:0<=x.id):tyOf (fX f) x.id=some (shp0 x.op).result:=by refine lY (qC hc) ?_;unfold fX mX;rw[aJ,bC];right;refine⟨b,hb, ?_⟩;unfold iT;rw[aJ];right;exact List.mem_map.2 ⟨x,List.mem_filter.2 ⟨hx,by have:=(pT hc b hb x hx).1 hid;simpa using this⟩,rfl⟩
theorem aHG{f:FuncD}(hc:fO f=0){b:BlockD}(hb:b∈f.blocks){p:PhiD}(hp:p∈b.phis):tyOf (fX f) p.id=some p.typ:=by refine lY (qC hc) ?_;unfold fX mX;rw[aJ,bC];right;refine⟨b,hb, ?_⟩;unfold iT;rw[aJ,aN];left;exact⟨p,hp,rfl⟩
theorem aIT{f:FuncD}(hc:fO f=0){b:BlockD}(hb:b∈f.blocks){x:InstrD}(hx:x∈b.code):InsOk f.arrays f.cells x:=by obtain⟨i,hi⟩:=bP hb;have h1:=(iN.1 ((jQ.1 hc).2.2.1 i b hi)).2.2.1;rw[aY]at h1;have h2:=h1 x hx;unfold gR at h2;simp only[aK,beq_iff_eq]at h2;exact⟨h2.1.1.1,h2.1.1.2,h2.1.2⟩
theorem GoodS.put{f:FuncD}{fuel:Nat}{s:RunS}(hc:fO f=0)(h:GoodS f fuel s){b:BlockD}(hb:b∈f.blocks){x:InstrD}(hx:x∈b.code){v:Int}(hv:(shp0 x.op).result=2->v=0\/v=1):GoodS f fuel (putS x v s):=by
 unfold putS;split
 ·rename_i hid;refine⟨h.al,h.cl,h.len,h.out,h.chk,h.stp,h.vis,fun id ht=> ?_⟩;show(if id=x.id then v else s.vals id)=0\/(if id=x.id then v else s.vals id)=1;by_cases e:id=x.id
  ·rw[if_pos e];rw[e,aEV hc hb hx hid]at ht;injection ht with ht;exact hv ht
  rw[if_neg e];exact h.flag id ht
 exact h
theorem GoodS.after{f:FuncD}{fuel:Nat}{s s1:RunS}(h:GoodS f fuel s)(hc:s.checks+1<=s.steps)(ha:After s s1):GoodS f fuel s1:=
 ⟨ha.al.trans h.al,ha.cl.trans h.cl,ha.len h.len,ha.out h.out,by have:=ha.chk;have:=ha.stp;omega,by have:=ha.stp;have:=h.stp;omega,by rw[ha.vis];exact h.vis,by rw[ha.vals];exact h.flag⟩
theorem GoodS.one{f:FuncD}{fuel:Nat}{s s1:RunS}(hc:fO f=0)(h:GoodS f fuel s){b:BlockD}(hb:b∈f.blocks){x:InstrD}(hx:x∈b.code)(hs:oneS fuel x s=.go () s1):GoodS f fuel s1:=by
 unfold oneS at hs
 cases h1:mB fuel s with
 | over o s2=>rw[h1]at hs;cases hs
 | go u s2=>
  rw[h1]at hs
  change (gG x s2).bind (fun v s2=>.go () (putS x v s2))=_ at hs
  obtain⟨-,g2,c2⟩:=h.step h1
  cases h3:gG x s2 with
  | over o s3=>rw[h3]at hs;cases hs
  | go v s3=>
   rw[h3]at hs
   change Res.go () (putS x v s3)=_ at hs
   injection hs with _ hs
   rw[<-hs]
   have ha:=rW x s2
   rw[h3]at ha
   exact(g2.after c2 ha).put hc hb hx (fun h2=>aEU (aIT hc hb hx) h2 h3)
theorem GoodS.code{f:FuncD}{fuel:Nat}(hc:fO f=0){b:BlockD}(hb:b∈f.blocks):∀{xs:List InstrD} {s s1:RunS},(∀x∈xs,x∈b.code)->GoodS f fuel s->jV fuel xs s=.go () s1->GoodS f fuel s1
 | [],s,s1,_,h,hs=>by injection hs with _ hs;rw[<-hs];exact h
 | x :: xs,s,s1,hx,h,hs=>by
  unfold jV at hs
  cases h1:oneS fuel x s with
  | over o s2=>rw[h1]at hs;cases hs
  | go u s2=>
   rw[h1]at hs
   exact GoodS.code hc hb (fun y hy=>hx y (bL _ hy)) (h.one hc hb (hx x (by simp)) h1) hs
theorem uH{f:FuncD}(hc:fO f=0){u:Int×Int}(hu:u∈lJ f)(h2:u.2≠0):tyOf (fX f) u.1=some u.2:=by
 unfold lJ at hu;rw[bC]at hu;obtain⟨x,hx,hu⟩:=hu;obtain⟨h1,h3⟩:=(jQ.1 hc).2.2.2.2 x hx u hu
 cases ht:tyOf (fX f) u.1 with
 | none=>rw[ht]at h1;simp at h1
 | some t=>
  unfold mJ at h3
  rw[ht]at h3
  simp only[Bool.and_eq_false_iff,bne_eq_false_iff_eq]at h3
  rcases h3 with h3|h3
  ·exact absurd h3 h2
  rw[h3]
theorem aJY{f:FuncD}{b:BlockD}(hb:b∈f.blocks){p:PhiD}(hp:p∈b.phis){v:Int}(hv:v∈p.vals):(v,p.typ)∈lJ f:=by unfold lJ;rw[bC];refine⟨b,hb, ?_⟩;unfold lI;rw[aJ,aJ];left;left;rw[bC];refine⟨p,hp, ?_⟩;unfold pQ;exact aN.2 ⟨v,hv,rfl⟩
theorem tJ{f:FuncD}{b:BlockD}(hb:b∈f.blocks)(h:b.term.op=2):(b.term.val,2)∈lJ f:=by unfold lJ;rw[bC];refine⟨b,hb, ?_⟩;unfold lI pA;rw[aJ,if_pos h];right;simp
theorem aIU{f:FuncD}(hc:fO f=0){d:Nat}{b:BlockD}(hb:f.blocks[d]? =some b){p:PhiD}(hp:p∈b.phis){src:Int}(hs:src∈p.src):p.src.idxOf src<p.vals.length/\p.vals.getD (p.src.idxOf src) 0∈p.vals:=by have hl:=((kY (fT hc).1).phi b (aG hb) p hp).1;have h1:=aX hs;refine⟨by omega, ?_⟩;rw[aH,aA (by omega),dI];exact dD _
theorem aBG(pv:List (PhiD×Int)):∀s:RunS,nT s pv={ s with vals:=(nT s pv).vals }:=by
 induction pv with
 | nil=>intro s;rfl
 | cons q pv ih=>
  intro s
  have h:=ih (setV s q.1.id q.2)
  show nT (setV s q.1.id q.2) pv=_
  rw[h]
  rfl
theorem aBH(s:RunS)(pv:List (PhiD×Int))(q:PhiD×Int):nT s (pv++[q])=setV (nT s pv) q.1.id q.2:=by unfold nT;rw[List.foldl_append];rfl
theorem GoodS.puts{f:FuncD}{fuel:Nat}(hc:fO f=0){b:BlockD}(hb:b∈f.blocks):∀{pv:List (PhiD×Int)} {s:RunS},(∀q∈pv,q.1∈b.phis/\(q.1.typ=2->q.2=0\/q.2=1))->GoodS f fuel s->GoodS f fuel (nT s pv)
 | [],s,_,h=>h
 | q :: pv,s,hq,h=>by
  refine GoodS.puts hc hb (pv:=pv) (s:=setV s q.1.id q.2) (fun r hr=>hq r (bL _ hr)) ?_;obtain⟨h1,h2⟩:=hq q (by simp);refine⟨h.al,h.cl,h.len,h.out,h.chk,h.stp,h.vis,fun id ht=> ?_⟩;show(if id=q.1.id then q.2 else s.vals id)=0\/(if id=q.1.id then q.2 else s.vals id)=1;by_cases e:id=q.1.id
  ·rw[if_pos e];rw[e,aHG hc hb h1]at ht;injection ht with ht;exact h2 ht
  rw[if_neg e];exact h.flag id ht
theorem GoodS.phis{f:FuncD}{fuel:Nat}{s:RunS}(hc:fO f=0)(h:GoodS f fuel s){d:Nat}{b:BlockD}(hb:f.blocks[d]? =some b){src:Int}(hs:∀p∈b.phis,src∈p.src):GoodS f fuel (pE b src s):=by have aa:=aG hb;unfold pE;refine GoodS.puts hc aa (fun q hq=> ?_) h;rw[aN]at hq;obtain⟨p,hp,rfl⟩:=hq;refine⟨hp,fun ht=> ?_⟩;obtain⟨-,hv⟩:=aIU hc hb hp (hs p hp);unfold phiV;have hu:=uH hc (aJY aa hp hv) (by show p.typ≠0;simp only at ht;omega);simp only at ht hu;rw[ht]at hu;exact h.flag _ hu
theorem GoodS.visit{f:FuncD}{fuel:Nat}{s:RunS}(h:GoodS f fuel s)(d:Nat):GoodS f fuel (kV d s):=
 ⟨h.al,h.cl,h.len,h.out,h.chk,h.stp,by show(s.visits.modify d _).length=_;rw[List.length_modify];exact h.vis,h.flag⟩
def aL7(f:FuncD)(w:World)(bs:Nat):Prop:=∃(bt bg:Nat) (bv:Value),w.cell? ⟨bs,0,none⟩=some (.pointer (some ⟨bt,0,none⟩))/\w.cell? ⟨bt,0,none⟩=some (.pointer (some ⟨bg,0,none⟩))/\w.cell? ⟨bg,3,none⟩=some bv/\fV iI 6 w bv f.blocks
def Env(f:FuncD)(base:Nat)(W:World)(bs:Nat):Prop:=∃w0:World,w0.heap.size=base/\Below base w0 W/\aL7 f w0 bs
theorem Env.later{f:FuncD}{base:Nat}{W W':World}{bs:Nat}(h:Env f base W bs)(hb:Below base W W'):Env f base W' bs:=by obtain⟨w0,h1,h2,h3⟩:=h;exact⟨w0,h1,h2.trans hb,h3⟩
theorem MOk.below{base bs fuel:Nat}{w w':World}{bm:Nat}{D:Foot}{s s':RunS}(hM:Mach base bs fuel w bm D s)(hB:base<=w.heap.size)(h:MOk base bs fuel w bm D s' w'):Below base w w':=by obtain⟨D',_,ho,_⟩:=h;exact ho.below hB (fun k _ hk=>hM.base k hk)
theorem aBI{l:List Nat}{i n:Nat}(h:l[i]? =some n):natI (l.modify i (· +1))=(natI l).set i (((n+1:Nat):Int)):=by rw[tK _ h];unfold natI;rw[List.map_set]
theorem aEW(z:Int):In64 (IntKind.i64.wrap z):=by rw[jS];unfold wrap64 In64;omega
theorem rX(b:Bool):In64 (nS b):=by
 rcases mW b with h|h
 ·rw[h];exact⟨by decide,by decide⟩
 rw[h];exact⟨by decide,by decide⟩
theorem aJZ{a b:Int}(hb:b≠0)(h:In64 b):In64 (a.tmod b):=by have h1:=Int.natAbs_tmod a b;have h2:a.natAbs % b.natAbs<b.natAbs:=Nat.mod_lt _ (by omega);unfold In64 at h⊢;omega
theorem rY{xs:List Int}(h:∀x∈xs,In64 x)(i:Nat):In64 (xs.getD i 0):=by
 rw[aH]
 cases h9:xs[i]? with
 | none=>exact⟨by decide,by decide⟩
 | some y=>exact h y (aG h9)
theorem wB{c:Prop}[Decidable c]{a b:Int}(ha:c->In64 a)(hb:¬c->In64 b):In64 (if c then a else b):=by
 split
 ·rename_i h;exact ha h
 rename_i h;exact hb h
theorem aHH{op:Int}{a:List Int}(h:∀x∈a,In64 x):In64 (oO op a):=by
 have h0:In64 0:=⟨by decide,by decide⟩;unfold oO;split
 ·exact h0
 split
 ·exact rX _
 split
 ·split
  ·exact rY h 1
  exact rY h 2
 split
 ·exact h0
 rename_i hz;unfold jX;iterate 8 (refine wB (fun _=>aEW _) (fun _=> ?_))
 refine wB (fun _=>aEW _) (fun _=> ?_);refine wB (fun h12=>aJZ (fun e=>hz ⟨.inr h12,e⟩) (rY h 1)) (fun _=> ?_);refine wB (fun _=>rX _) (fun _=> ?_);exact wB (fun _=>rX _) (fun _=>rX _)
theorem MachP.arr64{base bs fuel:Nat}{W:World}{bm:Nat}{s:RunS}{o:OverD}{ov av vv cv:Value}{mv:Nat}{m:List (Int×Value)}{F:Nat->Foot}(h:MachP base bs fuel W bm s o ov av vv cv mv m F):∀a∈s.arrays,∀x∈a,In64 x:=fun a ha x hx=>by obtain⟨i,hi⟩:=bP ha;obtain⟨_,_,_,_,_,_,_,_,aa,_⟩:=h.arr.open hi;exact aa.2 x hx
theorem aBJ{op n i:Int}{s:RunS}:∀{u s1},lW op n i s=.go u s1->s1=jJ op s:=fun {u s1} h=>by
 unfold lW at h;split at h
 ·cases h
 injection h with _ h;exact h.symm
theorem aHI{x:InstrD}{s s1:RunS}{v:Int}(hn:In64 x.n)(hv:∀i,In64 (s.vals i))(ha:∀a∈s.arrays,∀x∈a,In64 x)(hl:∀a∈s.arrays,a.length<=4096)(hc:∀x∈s.cells,In64 x)(h:gG x s=.go v s1):In64 v:=by
 have h0:In64 0:=⟨by decide,by decide⟩;unfold gG at h;split at h
 ·injection h with h;rw[<-h];exact hn
 split at h
 ·injection h with h;rw[<-h,aH]
  cases h9:s.arrays[x.n.toNat]? with
  | none=>exact h0
  | some a=>have:=hl a (aG h9);show In64 ((a.length:Nat):Int);unfold In64;omega
 split at h
 ·cases he:lW x.op x.n ((x.args.map s.vals).getD 0 0) s with
  | over o s2=>rw[he]at h;cases h
  | go u s2=>
   rw[he]at h
   injection h with h
   have e:=aBJ he
   rw[<-h,e,kE]
   refine rY (fun z hz=> ?_) _
   rw[aH]at hz
   cases h9:s.arrays[x.n.toNat]? with
   | none=>rw[h9]at hz;simp at hz
   | some a=>rw[h9]at hz;exact ha a (aG h9) z hz
 split at h
 ·cases he:lW x.op x.n ((x.args.map s.vals).getD 0 0) s with
  | over o s2=>rw[he]at h;cases h
  | go u s2=>rw[he]at h;injection h with h;rw[<-h];exact h0
 split at h
 ·split at h
  ·cases h
  injection h with h;rw[<-h];exact h0
 split at h
 ·injection h with h;rw[<-h];exact rY hc _
 split at h
 ·injection h with h;rw[<-h];exact h0
 split at h
 ·cases h
 injection h with h;rw[<-h];refine aHH fun z hz=> ?_;rw[aN]at hz;obtain⟨q,_,rfl⟩:=hz;exact hv q
end
section
open Go.RowKit
theorem aHM{f:FuncD}{t p:Nat}(hp:p<f.blocks.length)(h:t∈toB f p):p∈gT f f.blocks.length 0 t:=by rw[iM,dU];exact⟨bQ.2 hp,dN.2 h⟩
def In(f:FuncD)(src:Int)(a:Nat):Prop:=(src= -1/\a=0)\/∃b:Nat,src=b/\b<f.blocks.length/\a∈toB f b
theorem In.phis{f:FuncD}(hc:fO f=0)(hF:gE f 0 0){src:Int}{a:Nat}(h:In f src a){x:BlockD}(hx:f.blocks[a]? =some x):∀p∈x.phis,src∈p.src:=fun p hp=>by
 rcases h with⟨rfl,rfl⟩|⟨b,rfl,hb,ha⟩
 ·have h1:=(iN.1 ((jQ.1 hc).2.2.1 0 x hx)).1 rfl;rw[h1]at hp;cases hp
 have h1:=(qP.1 hF).2.1 a x hx;rw[aY]at h1;have h2:=h1 p hp;unfold gJ at h2;simp only[aK,aY]at h2;have h3:=h2.2 (b:Int) (by unfold natI;exact aN.2 ⟨b,aHM hb ha,rfl⟩);exact dN.1 h3
theorem In.lt{f:FuncD}(hc:fO f=0){src:Int}{a:Nat}(h:In f src a):a<f.blocks.length:=by
 rcases h with⟨rfl,rfl⟩|⟨b,rfl,hb,ha⟩
 ·exact(jH (fT hc).1).1
 exact(aGU (fT hc).1 ha).1
theorem aJ3{fuel:Nat}{x:InstrD}{s:RunS}(h:¬s.steps=fuel):oneS fuel x s=(gG x { s with steps:=s.steps+1 }).bind fun v s2=>.go () (putS x v s2):=by unfold oneS mB;rw[if_neg h];rfl
theorem aEY{fuel:Nat}{x:InstrD}{s:RunS}(h:s.steps=fuel):oneS fuel x s=.over ⟨3,0,0⟩ s:=by unfold oneS mB;rw[if_pos h];rfl
theorem aEZ{fuel:Nat}{x:InstrD}{s:RunS}:(oneS fuel x s).st.visits=s.visits/\s.steps<=(oneS fuel x s).st.steps/\(oneS fuel x s).st.steps<=s.steps+1/\((∃s1,oneS fuel x s=.go () s1)->(oneS fuel x s).st.steps=s.steps+1):=by
 by_cases h:s.steps=fuel
 ·rw[aEY h];exact⟨rfl,aC _,by show s.steps<=_;omega,fun⟨_,h⟩=>by cases h⟩
 rw[aJ3 h];have ha:=rW x { s with steps:=s.steps+1 }
 cases hi:gG x { s with steps:=s.steps+1 } with
 | over o s2=>
  rw[hi]at ha
  have h1:s2.steps=s.steps+1:=ha.stp
  refine⟨ha.vis, ?_, ?_,fun _=>h1⟩
  ·show s.steps<=s2.steps;omega
  show s2.steps<=s.steps+1;omega
 | go v s2=>
  rw[hi]at ha
  have h1:(putS x v s2).visits=s2.visits/\(putS x v s2).steps=s2.steps:=by unfold putS;split<;>exact⟨rfl,rfl⟩
  have h2:s2.steps=s.steps+1:=ha.stp
  refine⟨h1.1.trans ha.vis, ?_, ?_,fun _=>h1.2.trans h2⟩
  ·show s.steps<=(putS x v s2).steps;omega
  show(putS x v s2).steps<=s.steps+1;omega
theorem tL{fuel:Nat}:∀{xs:List InstrD} {s:RunS},(jV fuel xs s).st.visits=s.visits/\s.steps<=(jV fuel xs s).st.steps/\(jV fuel xs s).st.steps<=s.steps+xs.length/\((∃s1,jV fuel xs s=.go () s1)->(jV fuel xs s).st.steps=s.steps+xs.length)
 | [],s=>⟨rfl,aC _,by show s.steps<=_;simp,fun _=>rfl⟩
 | x :: xs,s=>by
  obtain⟨h1,h2,h3,h4⟩:=aEZ (fuel:=fuel) (x:=x) (s:=s);unfold jV
  cases ho:oneS fuel x s with
  | over o s2=>
   rw[ho]at h1 h2 h3
   refine⟨h1,h2, ?_,fun⟨_,h⟩=>by cases h⟩
   show s2.steps<=_
   simp only[Res.st]at h3
   rw[bI];omega
  | go u s2=>
   rw[ho]at h1 h2 h3 h4
   obtain⟨k1,k2,k3,k4⟩:=tL (fuel:=fuel) (xs:=xs) (s:=s2)
   have h5:=h4 ⟨s2,rfl⟩
   simp only[Res.st]at h1 h2 h3 h5
   show(jV fuel xs s2).st.visits=_/\s.steps<=(jV fuel xs s2).st.steps/\(jV fuel xs s2).st.steps<=_/\((∃s1,jV fuel xs s2=.go () s1)->(jV fuel xs s2).st.steps=_)
   rw[bI]
   exact⟨k1.trans h1,by omega,by omega,fun h=>by have:=k4 h;omega⟩
structure Gone(f:FuncD)(fuel:Nat)(a:Nat)(x:BlockD)(s s2:RunS)(to:Int):Prop where
 good:GoodS f fuel s2
 steps:s2.steps=s.steps+x.code.length+1
 visits:s2.visits=s.visits.modify a (· +1)
 to:∃t:Nat,to=t/\t∈toB f a
theorem zI{f:FuncD}{fuel:Nat}{src to:Int}{a:Nat}{s s2:RunS}{x:BlockD}(hc:fO f=0)(hG:GoodS f fuel s)(hx:f.blocks[a]? =some x)(hs:∀p∈x.phis,src∈p.src)(h:lD f fuel src a s=.go to s2):Gone f fuel a x s s2 to:=by
 have ac:=aG hx;have hal:=(aD.1 hx).1;unfold lD at h;rw[getD_some hx]at h;have g1:=(hG.visit a).phis hc hx hs;have hp:(pE x src (kV a s)).steps=s.steps/\(pE x src (kV a s)).visits=s.visits.modify a (· +1):=by unfold pE;rw[aBG];exact⟨rfl,rfl⟩
 cases hcd:jV fuel x.code (pE x src (kV a s))with
 | over o s3=>rw[hcd]at h;cases h
 | go u s3=>
  rw[hcd]at h
  obtain⟨k1,-,-,k4⟩:=tL (fuel:=fuel) (xs:=x.code) (s:=pE x src (kV a s))
  rw[hcd]at k1 k4
  have k5:=k4 ⟨s3,rfl⟩
  simp only[Res.st]at k1 k5
  have g3:=g1.code hc ac (fun y hy=>hy) hcd
  change (mB fuel s3).bind (fun _ s2=>endR x.term s2)=_ at h
  cases hst:mB fuel s3 with
  | over o s4=>rw[hst]at h;cases h
  | go u s4=>
   rw[hst]at h
   obtain⟨e4,g4,-⟩:=g3.step hst
   change endR x.term s4=_ at h
   have aa:s2=s4/\∃k:Nat,k<x.term.to.length/\to=x.term.to.getD k 0:=by
    have hk:=(iN.1 ((jQ.1 hc).2.2.1 a x hx)).2.2.2;unfold jB at hk;simp only[aK,cR,beq_iff_eq]at hk;unfold endR at h;split at h
    ·cases h
    split at h
    ·cases h
    split at h
    ·rename_i h2;injection h with h h';refine⟨h'.symm,_, ?_,h.symm⟩;have hl:x.term.to.length=2:=by
      rcases hk.2 with((h8|h8)|h8)|h8
      ·have:=h8.1.1.1;omega
      ·exact h8.1.2
      ·have:=h8.1.1;omega
      have:=h8.1.1.1;omega
     have ab:=g4.flag _ (uH hc (tJ ac h2) (by simp));simp only at ab;rcases ab with h9|h9<;>rw[h9,hl]<;>decide
    rename_i n3 n4 n2;injection h with h h';refine⟨h'.symm,0, ?_,h.symm⟩;rcases hk.2 with((h8|h8)|h8)|h8
    ·rw[h8.1.1.2];omega
    ·exact absurd h8.1.1 n2
    ·exact absurd h8.1.1 n3
    exact absurd h8.1.1.1 n4
   obtain⟨e2,k,ae,ad⟩:=aa
   subst e2
   refine⟨g4, ?_, ?_, ?_⟩
   ·rw[e4];show s3.steps+1=_;omega
   ·rw[e4];show s3.visits=_;rw[k1,hp.2]
   have hq:x.term.to[k]? =some to:=by rw[ad,aH,aA ae];rfl
   have h1:=lR (fT hc).1 hx to (aG hq)
   refine⟨to.toNat,by omega, ?_⟩
   rw[sD hx,aN]
   exact⟨to,aG hq,rfl⟩
end
end Go.Proofs.YtagabiidbbhhmaaGreat
