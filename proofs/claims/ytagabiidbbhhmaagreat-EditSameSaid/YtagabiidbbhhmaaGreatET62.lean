/- Part 62. -/
import Derived.Test.YtagabiidbbhhmaaGreatET60
namespace Go.Proofs.YtagabiidbbhhmaaGreat
set_option linter.all false
set_option maxRecDepth 100000
section
open Go.RowKit
def Res.map'{α:Type}(g:RunS->RunS):Res α->Res α
 | .go a s=>.go a (g s)
 | .over o s=>.over o (g s)
theorem Res.map'_bind{α β:Type}{g:RunS->RunS}{r:Res α}{k:α->RunS->Res β}{k':α->RunS->Res β}(h:∀a s,r=.go a s->k' a (g s)=(k a s).map' g):(r.map' g).bind k'=(r.bind k).map' g:=by
 cases r with
 | go a s=>exact h a s rfl
 | over o s=>rfl
def Has9(f:FuncD)(O:List Nat)(v:Int):Prop:=(0<=v/\v<f.params.length)\/v∈idsO f O
def rho(f:FuncD)(O:List Nat)(v:Int):Int:=renV f.params.length (idsO f O) v
theorem aEF{f:FuncD}{O:List Nat}(h:Named f.params.length (idsO f O)){u v:Int}(hu:Has9 f O u)(hv:Has9 f O v)(e:rho f O u=rho f O v):u=v:=by
 unfold rho at e;rcases hu with hu|hu<;>rcases hv with hv|hv
 ·rw[(mF h hu).1,(mF h hv).1]at e;exact e
 ·obtain⟨k,hk⟩:=bP hv;rw[(mF h hu).1,(mO h hk).1]at e;omega
 ·obtain⟨k,hk⟩:=bP hu;rw[(mF h hv).1,(mO h hk).1]at e;omega
 obtain⟨k,hk⟩:=bP hu;obtain⟨j,hj⟩:=bP hv;rw[(mO h hk).1,(mO h hj).1]at e;have:k=j:=by omega
 subst this;rw[hk]at hj;injection hj
structure Rn(f:FuncD)(O:List Nat)(s s':RunS):Prop where
 cells:s'.cells=s.cells
 arrays:s'.arrays=s.arrays
 out:s'.out=s.out
 steps:s'.steps=s.steps
 checks:s'.checks=s.checks
 vals:∀v,Has9 f O v->s'.vals (rho f O v)=s.vals v
def wv(v:Int->Int)(V:List Nat)(s:RunS):RunS:={ s with vals:=v,visits:=V }
theorem Rn.eq{f:FuncD}{O:List Nat}{s s':RunS}(h:Rn f O s s'):s'=wv s'.vals s'.visits s:=by
 obtain⟨h1,h2,h3,h4,h5,-⟩:=h
 cases s
 cases s';simp only at h1 h2 h3 h4 h5;subst h1;subst h2;subst h3;subst h4;subst h5;rfl
theorem Rn.of{f:FuncD}{O:List Nat}{v:Int->Int}{V:List Nat}{s:RunS}(h:∀u,Has9 f O u->v (rho f O u)=s.vals u):Rn f O s (wv v V s):=⟨rfl,rfl,rfl,rfl,rfl,h⟩
def RR{α:Type}(f:FuncD)(O:List Nat)(r r':Res α):Prop:=(∃a s s',r=.go a s/\r'=.go a s'/\Rn f O s s')\/∃o s s',r=.over o s/\r'=.over o s'/\Rn f O s s'
theorem RR.bind{α β:Type}{f:FuncD}{O:List Nat}{r r':Res α}{k k':α->RunS->Res β}(h:RR f O r r')(hk:∀a s s',r=.go a s->Rn f O s s'->RR f O (k a s) (k' a s')):RR f O (r.bind k) (r'.bind k'):=by
 rcases h with⟨a,s,s',rfl,rfl,hr⟩|⟨o,s,s',rfl,rfl,hr⟩
 ·exact hk a s s' rfl hr
 exact .inr ⟨o,s,s',rfl,rfl,hr⟩
theorem zE(v:Int->Int)(V:List Nat)(op:Int)(s:RunS):jJ op (wv v V s)=wv v V (jJ op s):=by unfold jJ;split<;>rfl
theorem zF(v:Int->Int)(V:List Nat)(op n i:Int)(s:RunS):lW op n i (wv v V s)=(lW op n i s).map' (wv v V):=by
 unfold lW;show(if i<0\/((s.arrays.getD n.toNat []).length:Int)<=i then _ else _)=_;split
 ·rw[zE];rfl
 rw[zE];rfl
theorem aEG{g:Int->Int}{v:Int->Int}(V:List Nat){x:InstrD}{s:RunS}(ha:x.args.map (fun u=>v (g u))=x.args.map s.vals):gG (renX g x) (wv v V s)=(gG x s).map' (wv v V):=by
 have hb:(renX g x).args.map (wv v V s).vals=x.args.map s.vals:=by show(x.args.map g).map v=_;rw[bN];exact ha
 unfold gG;rw[hb];show(if x.op=1\/x.op=2 then _ else _)=_;split
 ·rfl
 show(if x.op=18 then _ else _)=_;split
 ·rfl
 show(if x.op=19\/x.op=21 then _ else _)=_;split
 ·show(lW x.op x.n ((x.args.map s.vals).getD 0 0) (wv v V s)).bind _=_;rw[zF];exact Res.map'_bind fun a s1 _=>rfl
 show(if x.op=20\/x.op=22 then _ else _)=_;split
 ·show(lW x.op x.n ((x.args.map s.vals).getD 0 0) (wv v V s)).bind _=_;rw[zF];exact Res.map'_bind fun a s1 _=>rfl
 show(if x.op=23 then _ else _)=_;split
 ·show(if s.out.length=4096 then _ else _)=_;split<;>rfl
 show(if x.op=24 then _ else _)=_;split
 ·rfl
 show(if x.op=25 then _ else _)=_;split
 ·rfl
 show(if pZ x.op (x.args.map s.vals)≠0 then _ else _)=_;split<;>rfl
theorem oI(op:Int)(s:RunS):(jJ op s).vals=s.vals:=by unfold jJ;split<;>rfl
theorem xS(x:InstrD)(s:RunS):(gG x s).st.vals=s.vals:=by
 unfold gG;split
 ·rfl
 split
 ·rfl
 split
 ·rcases rE x.op x.n ((x.args.map s.vals).getD 0 0) s with h|h
  ·rw[h];exact oI _ _
  rw[h];exact oI _ _
 split
 ·rcases rE x.op x.n ((x.args.map s.vals).getD 0 0) s with h|h
  ·rw[h];exact oI _ _
  rw[h];exact oI _ _
 split
 ·split<;>rfl
 split
 ·rfl
 split
 ·rfl
 split<;>rfl
theorem aHC{f:FuncD}{O:List Nat}{x:InstrD}{s s':RunS}(h:Rn f O s s')(ha:x.args.map (fun u=>s'.vals (rho f O u))=x.args.map s.vals):RR f O (gG x s) (gG (renX (rho f O) x) s'):=by
 have h1:=aEG s'.visits ha;have h2:=xS x s;rw[<-h.eq]at h1;rw[h1]
 cases hi:gG x s with
 | go a s1=>
  rw[hi]at h2
  exact .inl ⟨a,s1,_,rfl,rfl,Rn.of fun u hu=>by rw[h.vals u hu];exact(congrFun h2 u).symm⟩
 | over o s1=>
  rw[hi]at h2
  exact .inr ⟨o,s1,_,rfl,rfl,Rn.of fun u hu=>by rw[h.vals u hu];exact(congrFun h2 u).symm⟩
theorem aEH{f:FuncD}{O:List Nat}(hN:Named f.params.length (idsO f O)){id v:Int}(hi:Has9 f O id){s s':RunS}(h:Rn f O s s'):Rn f O (setV s id v) (setV s' (rho f O id) v):=
 ⟨h.cells,h.arrays,h.out,h.steps,h.checks,fun u hu=>by
  show(if rho f O u=rho f O id then v else s'.vals (rho f O u))=if u=id then v else s.vals u
  by_cases e:u=id
  ·subst e;rw[if_pos rfl,if_pos rfl]
  rw[if_neg e,if_neg (fun e2=>e (aEF hN hu hi e2)),h.vals u hu]⟩
theorem aEI{f:FuncD}{O:List Nat}{F:Nat}{s s':RunS}(h:Rn f O s s'):RR f O (mB F s) (mB F s'):=by
 unfold mB;rw[h.steps];split
 ·exact .inr ⟨_,s,s',rfl,rfl,h⟩
 exact .inl ⟨(),_,_,rfl,rfl,⟨h.cells,h.arrays,h.out,rfl,h.checks,h.vals⟩⟩
theorem aEJ{f:FuncD}{O:List Nat}{F:Nat}(hN:Named f.params.length (idsO f O)):∀{xs:List InstrD} {s s':RunS},(∀x∈xs,(∀u∈x.args,Has9 f O u)/\(0<=x.id->Has9 f O x.id/\0<=rho f O x.id))->Rn f O s s'->RR f O (jV F xs s) (jV F (xs.map (renX (rho f O))) s')
 | [],s,s',_,h=>.inl ⟨(),s,s',rfl,rfl,h⟩
 | x :: xs,s,s',hx,h=>by
  obtain⟨h1,h2⟩:=hx x (by simp);refine RR.bind (r:=oneS F x s) (r':=oneS F (renX (rho f O) x) s') (RR.bind (aEI h) fun _ s1 s1' _ k1=>RR.bind (aHC k1 (bT fun u hu=>k1.vals u (h1 u hu))) fun v s2 s2' _ k2=> ?_) fun _ s1 s1' _ k1=>aEJ hN (fun y hy=>hx y (bL _ hy)) k1;refine .inl ⟨(),_,_,rfl,rfl, ?_⟩;unfold putS renX;by_cases e:0<=x.id
  ·obtain⟨e1,e2⟩:=h2 e;simp only[if_pos e,if_pos e2];exact aEH hN e1 k2
  simp only[if_neg e];exact k2
theorem aJT{α:Type}{L:List Nat}{c:Nat->Int}{F:Nat->α}(hc:∀x∈L,∀y∈L,c x=c y->x=y){j:Nat}{d:α}(hj:j∈L):(L.map F).getD ((L.map c).idxOf (c j)) d=F j:=by have h1:(L.map c).idxOf (c j)<(L.map c).length:=aX (fI hj);have h2:=cA h1;rw[aZ]at h1;rw[List.getElem_map]at h2;have h3:=hc _ (dD h1) _ hj h2;rw[aH,aM,aA h1,h3];rfl
theorem lH{O:List Nat}{a:Nat}(ha:a∈O):O.getD (O.idxOf a) 0=a:=by have h1:=aX ha;rw[aH,aA h1,cA];rfl
theorem aEK{O:List Nat}{p:PhiD}{a:Nat}{g:Int->Int}(hO:O.Nodup)(hn:p.src.Nodup)(hm:∀q∈p.src,0<=q/\q.toNat∈O)(hl:p.src.length=p.vals.length)(ha:(a:Int)∈p.src):
  (renP g O p).vals.getD ((renP g O p).src.idxOf (plO O a)) 0=g (p.vals.getD (p.src.idxOf (a:Int)) 0):=by
 obtain⟨e1,e2⟩:=rF (g:=g) hO hn hm hl;have aa:a∈O:=by have:=(hm _ ha).2;simpa using this
 show((kH (p.src.map (plO O))).map fun q=>(tyOf ((p.src.map (plO O)).zip (p.vals.map g)) q).getD 0).getD ((kH (p.src.map (plO O))).idxOf (plO O a)) 0=_;rw[e2,e1];have hp:plO O (a:Int)=((O.idxOf a:Nat):Int):=by unfold plO;rw[bW]
 rw[hp];show(((List.range O.length).filter fun b=>p.src.contains ((O.getD b 0:Nat):Int)).map fun b:Nat=>(p.vals.map g).getD (p.src.idxOf ((O.getD b 0:Nat):Int)) 0).getD ((((List.range O.length).filter fun b=>p.src.contains ((O.getD b 0:Nat):Int)).map fun b:Nat=>(b:Int)).idxOf ((O.idxOf a:Nat):Int)) 0=_;rw[aJT (c:=fun b:Nat=>(b:Int)) (fun x _ y _ e=>by have h9:(x:Int)=(y:Int):=e;omega) (List.mem_filter.2 ⟨List.mem_range.2 (List.idxOf_lt_length_of_mem aa),by rw[lH aa];simpa using ha⟩),lH aa];have hi:p.src.idxOf (a:Int)<p.vals.length:=by rw[<-hl];exact aX ha
 rw[aH,aH,aM,aA hi];rfl
section
open Classical
theorem zG{f:FuncD}{O:List Nat}(hc:fO f=0)(hO:fQ f O)(hall:∀d,d<f.blocks.length->Way (toB f) (-1) d){x:BlockD}(hx:x∈f.blocks):
  (∀p∈x.phis,∀u∈p.vals,Has9 f O u)/\(∀y∈x.code,∀u∈y.args,Has9 f O u)/\(x.term.op=2\/x.term.op=3->Has9 f O x.term.val):=by
 obtain⟨h1,h2,h3⟩:=aAY (fT hc).1 hx (g:=fun u=>if Has9 f O u then 1 else 0) (g':=fun _=>1) (fun u hu=>if_pos (aDM hc hO hall (aGR hx hu)));have aa:∀{l:List Int},l.map (fun u=>if Has9 f O u then (1:Int) else 0)=l.map (fun _=>1)->∀u∈l,Has9 f O u:=fun {l} h u hu=>by have:=List.map_inj_left.1 h u hu;refine Classical.byContradiction fun hn=> ?_;rw[if_neg hn]at this;exact absurd this (by decide)
 refine⟨fun p hp=>aa (h1 p hp),fun y hy=>aa (h2 y hy),fun ht=> ?_⟩;unfold mapT at h3;rw[if_pos ht,if_pos ht]at h3;have h4:(if Has9 f O x.term.val then (1:Int) else 0)=1:=congrArg TermD.val h3;refine Classical.byContradiction fun hn=> ?_;rw[if_neg hn]at h4;exact absurd h4 (by decide)
end
theorem aL4{f:FuncD}{O:List Nat}{a:Nat}(ha:a∈O){v:Int}(hv:v∈iH (iK f a)):Has9 f O v:=.inr (bC.2 ⟨a,ha,hv⟩)
theorem xT{f:FuncD}{O:List Nat}(hN:Named f.params.length (idsO f O)){v:Int}(hv:v∈idsO f O):0<=rho f O v:=by obtain⟨k,hk⟩:=bP hv;unfold rho;rw[(mO hN hk).1];omega
theorem aEL{f:FuncD}{O:List Nat}(hN:Named f.params.length (idsO f O)){v v':PhiD->Int}:∀{ps:List PhiD} {s s':RunS},(∀p∈ps,Has9 f O p.id/\v' p=v p)->Rn f O s s'->
  Rn f O (nT s (ps.map fun p=>(p,v p))) (nT s' (ps.map fun p=>(renP (rho f O) O p,v' p)))
 | [],s,s',_,h=>h
 | p :: ps,s,s',hp,h=>by obtain⟨h1,h2⟩:=hp p (by simp);show Rn f O (nT (setV s p.id (v p)) (ps.map fun p=>(p,v p))) (nT (setV s' (rho f O p.id) (v' p)) (ps.map fun p=>(renP (rho f O) O p,v' p)));rw[h2];exact aEL hN (fun q hq=>hp q (bL _ hq)) (aEH hN h1 h)
def RRp(f:FuncD)(O:List Nat)(r r':Res Int):Prop:=(∃a s s',r=.go a s/\r'=.go (plO O a) s'/\Rn f O s s')\/∃o s s',r=.over o s/\r'=.over o s'/\Rn f O s s'
theorem RR.bindp{α:Type}{f:FuncD}{O:List Nat}{r r':Res α}{k k':α->RunS->Res Int}(h:RR f O r r')(hk:∀a s s',Rn f O s s'->RRp f O (k a s) (k' a s')):RRp f O (r.bind k) (r'.bind k'):=by
 rcases h with⟨a,s,s',rfl,rfl,hr⟩|⟨o,s,s',rfl,rfl,hr⟩
 ·exact hk a s s' hr
 exact .inr ⟨o,s,s',rfl,rfl,hr⟩
theorem aEM{O:List Nat}(h0:O[0]? =some 0)(l:List Int)(j:Nat):(l.map (plO O)).getD j 0=plO O (l.getD j 0):=by
 rw[aH,aH,aM]
 cases l[j]? with
 | some v=>rfl
 | none=>
  show(0:Int)=plO O 0
  unfold plO
  cases O with
  | nil=>rfl
  | cons c O=>
   simp at h0
   subst h0
   simp
theorem aL5{f:FuncD}{O:List Nat}(h0:O[0]? =some 0){x:BlockD}(hv:x.term.op=2\/x.term.op=3->Has9 f O x.term.val){s s':RunS}(h:Rn f O s s'):RRp f O (endR x.term s) (endR (renB (rho f O) O x).term s'):=by
 have e1:(renB (rho f O) O x).term.op=x.term.op:=by show(mapT (rho f O) x.term).op=_;unfold mapT;split<;>rfl
 have e2:(renB (rho f O) O x).term.n=x.term.n:=by show(mapT (rho f O) x.term).n=_;unfold mapT;split<;>rfl
 have e3:x.term.op=2\/x.term.op=3->s'.vals (renB (rho f O) O x).term.val=s.vals x.term.val:=fun ht=>by
  have:(renB (rho f O) O x).term.val=rho f O x.term.val:=by show(mapT (rho f O) x.term).val=_;unfold mapT;rw[if_pos ht]
  rw[this];exact h.vals _ (hv ht)
 have e4:(renB (rho f O) O x).term.to=x.term.to.map (plO O):=rfl;unfold endR;rw[e1,e2,e4];by_cases h3:x.term.op=3
 ·rw[if_pos h3,if_pos h3,e3 (.inr h3)];exact .inr ⟨_,s,s',rfl,rfl,h⟩
 rw[if_neg h3,if_neg h3];by_cases h4:x.term.op=4
 ·rw[if_pos h4,if_pos h4];exact .inr ⟨_,s,s',rfl,rfl,h⟩
 rw[if_neg h4,if_neg h4];by_cases h2:x.term.op=2
 ·rw[if_pos h2,if_pos h2,e3 (.inl h2),aEM h0];exact .inl ⟨_,s,s',rfl,rfl,h⟩
 rw[if_neg h2,if_neg h2,aEM h0];exact .inl ⟨_,s,s',rfl,rfl,h⟩
def srcO(O:List Nat)(src:Int):Int:=if src= -1 then -1 else plO O src
theorem rS{f:FuncD}{O:List Nat}{a:Nat}(ha:a∈O):(renF f O).blocks.getD (O.idxOf a) default=renB (rho f O) O (iK f a):=by have h1:=aX ha;show(O.map fun b=>renB (renV f.params.length (idsO f O)) O (iK f b)).getD (O.idxOf a) default=_;rw[aH,aM,aA h1,cA];rfl
theorem aHD{f:FuncD}{O:List Nat}(hc:fO f=0)(hF:gE f 0 0)(hO:fQ f O){F:Nat}{src:Int}{a:Nat}{s s':RunS}(hin:In f src a)(h:Rn f O s s'):RRp f O (lD f F src a s) (lD (renF f O) F (srcO O src) (O.idxOf a) s'):=by
 have aa:=iC hF;have hN:=jY hc hO aa;have ag:=hin.lt hc;have ah:a∈O:=(hO.facts.2.1 a).2 (aa a ag);obtain⟨x,hx⟩:∃x,f.blocks[a]? =some x:=⟨_,aA ag⟩;have aj:=aG hx;have hb:=gK hx;obtain⟨u1,u2,u3⟩:=zG hc hO aa aj;have ab:∀v∈iH x,v∈idsO f O:=fun v hv=>bC.2 ⟨a,ah,by rw[hb];exact hv⟩;have af:=hin.phis hc hF hx;unfold lD;rw[getD_some hx,rS ah,hb];have ae:Rn f O (kV a s) (kV (O.idxOf a) s'):=⟨h.cells,h.arrays,h.out,h.steps,h.checks,h.vals⟩;have ai:Rn f O (pE x src (kV a s)) (pE (renB (rho f O) O x) (srcO O src) (kV (O.idxOf a) s')):=by
  unfold pE;show Rn f O _ (nT (kV (O.idxOf a) s') ((x.phis.map (renP (rho f O) O)).map fun p=>(p,phiV (srcO O src) (kV (O.idxOf a) s') p)));rw[bN];refine aEL hN (v:=fun p=>phiV src (kV a s) p) (v':=fun p=>phiV (srcO O src) (kV (O.idxOf a) s') (renP (rho f O) O p)) (fun p hp=> ?_) ae;have ac:p.id∈iH x:=by unfold iH;exact eX _ (fI hp)
  refine⟨.inr (ab _ ac), ?_⟩;obtain⟨p1,p2,p3⟩:=rG (fT hc).1 hx hp;have ad:=af p hp;obtain⟨q1,q2⟩:=p3 _ ad;obtain⟨b,rfl⟩:∃b:Nat,src=b:=⟨src.toNat,by omega⟩;have hs:srcO O (b:Int)=plO O b:=by unfold srcO;rw[if_neg (by omega)]
  have hi:p.src.idxOf (b:Int)<p.vals.length:=by rw[<-p2];exact aX ad
  show s'.vals ((renP (rho f O) O p).vals.getD ((renP (rho f O) O p).src.idxOf (srcO O (b:Int))) 0)=s.vals (p.vals.getD (p.src.idxOf (b:Int)) 0);rw[hs,aEK hO.facts.1 p1 (fun q hq=>⟨(p3 q hq).1,(hO.facts.2.1 _).2 (aa _ (by have:=p3 q hq;omega))⟩) p2 ad];refine h.vals _ (u1 p hp _ ?_);rw[aH,aA hi];exact dD hi
 refine RR.bindp (aEJ hN (xs:=x.code) (fun y hy=>⟨u2 y hy,fun e=> ?_⟩) ai) fun _ s1 s1' k1=>RR.bindp (aEI k1) fun _ s2 s2' k2=>aL5 hO.facts.2.2.2.1 u3 k2;have ac:y.id∈iH x:=by unfold iH;exact List.mem_append_right _ (List.mem_map_of_mem (List.mem_filter.2 ⟨hy,by simpa using e⟩))
 exact⟨.inr (ab _ ac),xT hN (ab _ ac)⟩
theorem aL6{f:FuncD}{O:List Nat}(hc:fO f=0)(hF:gE f 0 0)(hO:fQ f O){F:Nat}:∀(m:Nat) (src:Int) (a:Nat) (s s' s1:RunS) (o:OverD),In f src a->GoodS f F s->Rn f O s s'->runN f F m src a s=some (o,s1)->
  ∃s1',runN (renF f O) F m (srcO O src) (O.idxOf a) s'=some (o,s1')/\Rn f O s1 s1':=by
 intro m;induction m with
 | zero=>intro src a s s' s1 o _ _ _ h;simp[runN]at h
 | succ m ih=>
  intro src a s s' s1 o ab hg hR h
  have ad:=ab.lt hc
  obtain⟨x,hx⟩:∃x,f.blocks[a]? =some x:=⟨_,aA ad⟩
  have hb:=aHD (F:=F) hc hF hO ab hR
  unfold runN at h⊢
  rcases hb with⟨to,s2,aa,e1,e2,hr⟩|⟨o2,s2,aa,e1,e2,hr⟩
  ·rw[e1]at h
   rw[e2]
   have ac:=zI hc hg hx (ab.phis hc hF hx) e1
   obtain⟨t,rfl,ht⟩:=ac.to
   have h':runN f F m a t s2=some (o,s1):=by simpa using h
   obtain⟨s1',r1,r2⟩:=ih (a:Int) t s2 aa s1 o (.inr ⟨a,rfl,ad,ht⟩) ac.good hr h'
   refine⟨s1', ?_,r2⟩
   have es:srcO O (a:Int)=((O.idxOf a:Nat):Int):=by unfold srcO plO;rw[if_neg (by omega),bW]
   have et:(plO O (t:Int)).toNat=O.idxOf t:=by unfold plO;rw[bW,bW]
   rw[es]at r1
   show runN (renF f O) F m ((O.idxOf a:Nat):Int) (plO O (t:Int)).toNat aa=_
   rw[et];exact r1
  rw[e1]at h
  rw[e2]
  injection h with h
  injection h with h1 h2
  subst h1
  subst h2
  exact⟨aa,rfl,hr⟩
theorem aHE{f:FuncD}{O:List Nat}(hN:Named f.params.length (idsO f O))(i:InputD):Rn f O (nU f i) (nU (renF f O) i):=
 ⟨rfl,rfl,rfl,rfl,rfl,fun v hv=>by
  show argI f i.args (rho f O v)=argI f i.args v;rcases hv with hv|hv
  ·unfold rho;rw[(mF hN hv).1]
  obtain⟨k,hk⟩:=bP hv;have h1:=hN.out v hv;unfold rho;rw[(mO hN hk).1];unfold argI;rw[if_neg (by omega),if_neg (by omega)]⟩
theorem aHF{f:FuncD}{O:List Nat}(hc:fO f=0)(hF:gE f 0 0)(hO:fQ f O){i:InputD}{fuel:Int}(hf0:0<=fuel){u v:TraceD}(hu:RunP f i fuel u)(hv:RunP (renF f O) i fuel v)(hgc:fO (renF f O)=0)(hgF:gE (renF f O) 0 0):
  v.how=u.how/\v.value=u.value/\v.trap=u.trap/\v.out=u.out/\v.arrays=u.arrays/\v.steps=u.steps/\v.checks=u.checks:=by
 rcases hu with⟨-,hn⟩|⟨-,-,-,o,s,⟨m,hr⟩,rfl⟩
 ·exact absurd ⟨hc,hF,hf0⟩ hn
 rcases hv with⟨-,hn⟩|⟨-,-,-,o2,s2,aa,rfl⟩
 ·exact absurd ⟨hgc,hgF,hf0⟩ hn
 have hN:=jY hc hO (iC hF);obtain⟨s1',r1,r2⟩:=aL6 hc hF hO m (-1) 0 (nU f i) (nU (renF f O) i) s o (.inl ⟨rfl,rfl⟩) (GoodS.start hc) (aHE hN i) hr;have e0:O.idxOf 0=0:=by
  have:=hO.facts.2.2.2.1
  cases O with
  | nil=>rfl
  | cons c O=>simp at this;subst this;simp
 rw[e0]at r1;obtain⟨rfl,rfl⟩:=aa.one ⟨m,r1⟩;refine⟨rfl,rfl,rfl,r2.out,r2.arrays, ?_, ?_⟩
 ·show((s2.steps:Nat):Int)=(s.steps:Int);rw[r2.steps]
 ·show((s2.checks:Nat):Int)=(s.checks:Int);rw[r2.checks]
theorem Steps.renamed{tos tos':Nat->List Nat}{φ:Nat->Nat}{A:Nat->Prop}(hi:∀x y,A x->A y->φ x=φ y->x=y)(hc:∀x y,A x->y∈tos x->A y)(ht:∀x,A x->tos' (φ x)=(tos x).map φ){l:List Nat}{s s':List Bool}{d d':List Nat}(h:Steps tos l s d s' d'):
  ∀{σ:List Bool},(∀x∈l,A x)->(∀x,A x->σ[φ x]? =s[x]?)->∃σ',Steps tos' (l.map φ) σ (d.map φ) σ' (d'.map φ)/\∀x,A x->σ'[φ x]? =s'[x]?:=by
 induction h with
 | nil s d=>intro σ _ hs;exact⟨σ,.nil _ _,hs⟩
 | @skip t ts s d s' d' h1 _ ih=>
  intro σ hl hs
  obtain⟨σ',k1,k2⟩:=ih (fun x hx=>hl x (bL _ hx)) hs
  exact⟨σ',.skip (by rw[hs t (hl t (by simp)),h1]) k1,k2⟩
 | @go t ts s d s1 d1 s' d' h1 _ _ ih1 ih2=>
  intro σ hl hs
  have aa:=hl t (by simp)
  have hσ:σ[φ t]? =some false:=by rw[hs t aa,h1]
  have ac:=(aD.1 hσ).1
  have ab:=(aD.1 h1).1
  obtain⟨σ1,k1,k2⟩:=ih1 (σ:=σ.set (φ t) true) (fun x hx=>hc t x aa hx) (fun x hx=>by
   by_cases e:t=x
   ·subst e;rw[eO ac,eO ab]
   rw[List.getElem?_set_ne (fun e2=>e (hi _ _ aa hx e2)),List.getElem?_set_ne e,hs x hx])
  obtain⟨σ',k3,k4⟩:=ih2 (fun x hx=>hl x (bL _ hx)) k2
  refine⟨σ',.go hσ (by rw[ht t aa];exact k1) ?_,k4⟩
  rw[bG]at k3
  exact k3
theorem aIR{f:FuncD}{O:List Nat}{a:Nat}(ha:a∈O)(hn:∀y∈(iK f a).term.to,0<=y):toB (renF f O) (O.idxOf a)=(toB f a).map O.idxOf:=by
 have h1:toB (renF f O) (O.idxOf a)=(((iK f a).term.to).map (plO O)).map Int.toNat:=by unfold toB;rw[rS ha];rfl
 have h2:toB f a=(iK f a).term.to.map Int.toNat:=rfl;rw[h1,h2,bN,bN];refine bT fun y _=> ?_;show(plO O y).toNat=O.idxOf y.toNat;unfold plO;rw[bW]
theorem vY{O:List Nat}(hO:O.Nodup):O.map O.idxOf=List.range O.length:=by
 refine bJ fun k=> ?_;rw[aM];by_cases hk:k<O.length
 ·rw[aA hk,dK hk];show some (O.idxOf O[k])=some k;have h1:=aX (dD hk);have h2:=cA h1;rw[(dP hO).1 h2]
 rw[aS (by omega),aS (by rw[dL];omega)];rfl
theorem rT{f:FuncD}{O:List Nat}(hc:fO f=0)(hF:gE f 0 0)(hO:fQ f O):fQ (renF f O) (List.range f.blocks.length):=by
 have aa:=iC hF;obtain⟨f1,f2,f3,f4,-⟩:=hO.facts;have ab:O.length=f.blocks.length:=by have:=(mU hO aa).length_eq;rwa[dL]at this
 have ac:∀a,a<f.blocks.length->a∈O:=fun a ha=>(f2 a).2 (aa a ha);obtain⟨s',hs⟩:=hO;have ad:(renF f O).blocks.length=f.blocks.length:=by show(O.map _).length=_;rw[aZ,ab]
 obtain⟨σ',k1,-⟩:=hs.renamed (φ:=O.idxOf) (tos':=toB (renF f O)) (A:=fun a=>a∈O) (fun x y hx hy e=>by
   have h1:=lH hx;have h2:=lH hy;rw[e]at h1;exact h1.symm.trans h2) (fun x y hx hy=>ac y (aGU (fT hc).1 hy).1) (fun x hx=>aIR hx fun y hy=>by
   have hxl:=f3 x hx;obtain⟨z,hz⟩:∃z,f.blocks[x]? =some z:=⟨_,aA hxl⟩;rw[gK hz]at hy;have:=lR (fT hc).1 hz y hy;omega) (σ:=List.replicate f.blocks.length false) (fun x hx=>by
   have:x=0:=by simpa using hx
   rw[this];exact aG f4) (fun x hx=>by
   have h1:=aX hx;rw[dY,dY,if_pos (by omega),if_pos (f3 x hx)])
 have e0:O.idxOf 0=0:=by
  cases O with
  | nil=>rfl
  | cons c O=>simp at f4;subst f4;simp
 refine⟨σ', ?_⟩;rw[ad];have h9:O.reverse.map O.idxOf=(List.range f.blocks.length).reverse:=by rw[List.map_reverse,vY f1,ab]
 rw[h9]at k1;simpa [e0]using k1
theorem aJU{g:Int->Int}{O:List Nat}{x:BlockD}(hg:∀v∈iH x,0<=g v):iH (renB g O x)=(iH x).map g:=by
 unfold iH;show((x.phis.map (renP g O)).map (·.id))++((x.code.map (renX g)).filter fun y=>decide (0<=y.id)).map (·.id)=_;rw[bG,bN,bN];congr 1;have ab:∀y∈x.code,0<=y.id->0<=g y.id:=fun y hy h=>hg _ (by unfold iH;exact List.mem_append_right _ (List.mem_map_of_mem (List.mem_filter.2 ⟨hy,by simpa using h⟩)));have ac:∀(l:List InstrD),(∀y∈l,0<=y.id->0<=g y.id)->((l.map (renX g)).filter fun y=>decide (0<=y.id)).map (·.id)=((l.filter fun y=>decide (0<=y.id)).map (·.id)).map g:=fun l=>by
  induction l with
  | nil=>intro _;rfl
  | cons y l ih=>
   intro h
   have aa:=ih fun z hz=>h z (bL _ hz)
   by_cases e:0<=y.id
   ·have e2:=h y (by simp) e
    have e3:decide (0<=(renX g y).id)=true:=by unfold renX;simp only[if_pos e];exact decide_eq_true e2
    have e4:decide (0<=y.id)=true:=decide_eq_true e
    rw[cI,eL,eL,if_pos e3,if_pos e4,cI,cI,cI,aa]
    congr 1
    unfold renX
    simp only[if_pos e]
   have e3:decide (0<=(renX g y).id)=false:=by unfold renX;simp only[if_neg e];exact decide_eq_false e
   have e4:decide (0<=y.id)=false:=decide_eq_false e
   rw[cI,eL,eL,e3,e4]
   simpa using aa
 rw[ac x.code ab,bN]
theorem aJV{f:FuncD}{O:List Nat}(hc:fO f=0)(hF:gE f 0 0)(hO:fQ f O):idsO (renF f O) (List.range f.blocks.length)=(idsO f O).map (rho f O):=by
 have aa:=iC hF;have hN:=jY hc hO aa;have ab:O.length=f.blocks.length:=by have:=(mU hO aa).length_eq;rwa[dL]at this
 unfold idsO;rw[<-ab,<-vY hO.facts.1,fC,eK];have ac:∀a∈O,iH (iK (renF f O) (O.idxOf a))=(iH (iK f a)).map (rho f O):=fun a ha=>by show iH ((renF f O).blocks.getD (O.idxOf a) default)=_;rw[rS ha];exact aJU fun v hv=>xT hN (bC.2 ⟨a,ha,hv⟩)
 rw[fE,fE];congr 1;exact bT ac
end
section
open Go.RowKit
theorem aF7{a b:List Int}(h:a.Perm b):a.sum=b.sum:=by
 induction h with
 | nil=>rfl
 | cons x _ ih=>simp[ih]
 | swap x y l=>simp only[fJ];omega
 | trans _ _ h1 h2=>exact h1.trans h2
theorem pY{f:FuncD}{O:List Nat}(hO:fQ f O)(hall:∀d,d<f.blocks.length->Way (toB f) (-1) d):O.length=f.blocks.length:=by have:=(mU hO hall).length_eq;rwa[dL]at this
theorem tR(f:FuncD):(List.range f.blocks.length).map (iK f)=f.blocks:=by
 apply bJ;intro i;rw[aM];by_cases hi:i<f.blocks.length
 ·rw[dK hi,aA hi,dB,gK (aA hi)]
 rw[aS (by rw[dL];omega),aS (by omega)];rfl
theorem wW{f:FuncD}{O:List Nat}(hO:fQ f O)(hall:∀d,d<f.blocks.length->Way (toB f) (-1) d):(O.map (iK f)).Perm f.blocks:=by have h:=(mU hO hall).map (iK f);rwa[tR]at h
theorem aF8{f:FuncD}{O:List Nat}(hO:fQ f O){b:Nat}(hb:b∈O):iK f b∈f.blocks:=by have hl:=hO.facts.2.2.1 b hb;rw[gK (aA hl)];exact dD hl
theorem uT{f:FuncD}{O:List Nat}(hO:fQ f O)(hall:∀d,d<f.blocks.length->Way (toB f) (-1) d):(renF f O).blocks.length=f.blocks.length:=by show(O.map _).length=_;rw[aZ,pY hO hall]
theorem aMX{f:FuncD}{O:List Nat}{k a:Nat}(h:O[k]? =some a):(renF f O).blocks[k]? =some (renB (rho f O) O (iK f a)):=by show(O.map _)[k]? =_;rw[aM,h];rfl
theorem sO{f:FuncD}{O:List Nat}{k:Nat}{y:BlockD}(h:(renF f O).blocks[k]? =some y):∃a,O[k]? =some a/\y=renB (rho f O) O (iK f a):=by have h1:(O.map fun b=>renB (rho f O) O (iK f b))[k]? =some y:=h;rw[aM,eP]at h1;obtain⟨a,h2,h3⟩:=h1;exact⟨a,h2,h3.symm⟩
theorem aF9(g:Int->Int)(O:List Nat)(x:BlockD):iB (renB g O x)=iB x:=by unfold iB renB;simp
theorem aIG{f:FuncD}{O:List Nat}(hO:fQ f O)(hall:∀d,d<f.blocks.length->Way (toB f) (-1) d):mE (renF f O)=mE f:=by
 unfold mE;show((O.map fun b=>renB (rho f O) O (iK f b)).map iB).sum=_;have:(O.map fun b=>renB (rho f O) O (iK f b)).map iB=(O.map (iK f)).map iB:=by rw[bN,bN];exact bT fun b _=>aF9 _ _ _
 rw[this];exact aF7 ((wW hO hall).map iB)
def fst9(g:Int->Int)(p:Int×Int):Int×Int:=(g p.1,p.2)
theorem aGA{f:FuncD}{O:List Nat}(hc:fO f=0){x:BlockD}(hx:x∈f.blocks)(g:Int->Int):iT (renB g O x)=(iT x).map (fst9 g):=by
 unfold iT;show((x.phis.map (renP g O)).map fun p=>(p.id,p.typ))++(((x.code.map (renX g)).filter fun y=>(shp0 y.op).result != 0).map fun y=>(y.id,(shp0 y.op).result))=_;rw[bG];congr 1
 ·rw[bN,bN];rfl
 rw[List.filter_map,bN,bN];refine bT fun y hy=> ?_;obtain⟨h1,h2⟩:=dU.1 hy;have h3:(shp0 y.op).result≠0:=by simpa [renX]using h2
 have h4:=(pT hc x hx y h1).2 h3;show((renX g y).id,(shp0 y.op).result)=(g y.id,(shp0 y.op).result);unfold renX;simp only[if_pos h4]
theorem aAA{f:FuncD}{O:List Nat}(hc:fO f=0)(hO:fQ f O):mX (renF f O)=((O.map (iK f)).flatMap iT).map (fst9 (rho f O)):=by unfold mX;show(O.map fun b=>renB (rho f O) O (iK f b)).flatMap iT=_;rw[fC,fC,eK,fE,fE];congr 1;exact bT fun b hb=>aGA hc (aF8 hO hb) _
theorem aIH{f:FuncD}{O:List Nat}(hc:fO f=0)(hO:fQ f O):((O.map (iK f)).flatMap iT).map (·.1)=idsO f O:=by unfold idsO;rw[fC,eK,fE,fE];congr 1;exact bT fun b hb=>(yS hc (aF8 hO hb)).symm
theorem aAB{f:FuncD}{O:List Nat}(hc:fO f=0)(hO:fQ f O):(mX (renF f O)).map (·.1)=(idsO f O).map (rho f O):=by rw[aAA hc hO,<-aIH hc hO,bN,bN];rfl
theorem aIX{f:FuncD}{O:List Nat}(hN:Named f.params.length (idsO f O)){v:Int}(hv:v∈idsO f O):∃k,k<(idsO f O).length/\rho f O v=((f.params.length+k:Nat):Int):=by obtain⟨k,hk⟩:=bP hv;exact⟨k,(aD.1 hk).1,(mO hN hk).1⟩
theorem aK4{f:FuncD}{O:List Nat}(hc:fO f=0)(hO:fQ f O)(hall:∀d,d<f.blocks.length->Way (toB f) (-1) d):(idsO f O).length<=4096:=by
 have h1:((idsO f O).length:Int)<=mE f:=by
  rw[<-defs_keys_len hc hO hall];have aa:∀l:List BlockD,(((l.flatMap iT).length:Nat):Int)<=(l.map iB).sum:=fun l=>by
   induction l with
   | nil=>simp
   | cons x l ih=>
    rw[cK,aO,cI,fJ]
    have:(iT x).length<=x.phis.length+x.code.length:=by unfold iT;rw[aO,aZ,aZ];have:=List.length_filter_le (fun y:InstrD=>(shp0 y.op).result != 0) x.code;omega
    have hs:iB x=(x.phis.length:Int)+x.code.length+1:=rfl
    rw[hs]
    omega
  exact aa f.blocks
 have:=(kY (fT hc).1).size;omega
where
 defs_keys_len {f:FuncD} {O:List Nat} (hc:fO f=0) (hO:fQ f O) (hall:∀d,d<f.blocks.length->Way (toB f) (-1) d):(mX f).length=(idsO f O).length:=by
  have:=(qN hc hO hall).length_eq
  rw[aZ]at this
  exact this.symm
theorem wX{f:FuncD}{O:List Nat}(hc:fO f=0)(hO:fQ f O)(hall:∀d,d<f.blocks.length->Way (toB f) (-1) d):((parT f.params++mX (renF f O)).map (·.1)).Nodup:=by
 have hN:=jY hc hO hall;rw[bG,aAB hc hO,cN];refine⟨tO _, ?_,fun a ha b hb e=> ?_⟩
 ·have h1:=hN.nodup;rw[bX]at h1⊢;rw[dR];exact(List.Pairwise.and_mem.1 h1).imp fun⟨ha,hb,hne⟩ e=>hne (aEF hN (.inr ha) (.inr hb) e)
 have h1:=tY _ ha;obtain⟨v,hv,rfl⟩:=aN.1 hb;obtain⟨k,-,h2⟩:=aIX hN hv;omega
theorem aMY{f:FuncD}{O:List Nat}(hc:fO f=0)(hO:fQ f O)(hall:∀d,d<f.blocks.length->Way (toB f) (-1) d){v t:Int}(h:tyOf (fX f) v=some t):tyOf (fX (renF f O)) (rho f O v)=some t:=by
 have hN:=jY hc hO hall;have hm:=nJ h;refine lY (wX hc hO hall) ?_;unfold fX at hm;rw[aJ]at hm⊢;rcases hm with hm|hm
 ·left;have h1:=tY _ (fI (f:=Prod.fst) hm);have h2:rho f O v=v:=(mF hN h1).1;rw[h2];exact hm
 right;rw[aAA hc hO];have h3:(v,t)∈(O.map (iK f)).flatMap iT:=((wW hO hall).flatMap_right _).mem_iff.2 hm;exact aN.2 ⟨(v,t),h3,rfl⟩
theorem aGB{f:FuncD}{O:List Nat}(hO:fQ f O)(hall:∀d,d<f.blocks.length->Way (toB f) (-1) d)(hf:gX f=true){a:Nat}{x:BlockD}(hx:f.blocks[a]? =some x){p:PhiD}(hp:p∈x.phis){g:Int->Int}:
  ∀v'∈(renP g O p).vals,∃v∈p.vals,v'=g v:=by
 obtain⟨p1,p2,p3⟩:=rG hf hx hp;obtain⟨h1,h2,h3,-,-⟩:=hO.facts;obtain⟨-,e2⟩:=rF (O:=O) (g:=g) (p:=p) h1 p1 (fun q hq=>⟨(p3 q hq).1,(h2 _).2 (hall _ (by have:=p3 q hq;omega))⟩) p2;intro v' hv;have aa:v'∈(mN O (mapP g p)).vals:=by rw[<-e2];exact hv
 unfold mN mapP at aa;simp only[aN,dU]at aa;obtain⟨b,⟨-,hb⟩,rfl⟩:=aa;have hi:p.src.idxOf ((O.getD b 0:Nat):Int)<p.vals.length:=by rw[<-p2];exact List.idxOf_lt_length_of_mem (by simpa using hb)
 refine⟨p.vals[p.src.idxOf ((O.getD b 0:Nat):Int)],dD hi, ?_⟩;rw[aH,aM,aA hi];rfl
theorem aII{f:FuncD}{O:List Nat}(hO:fQ f O)(hall:∀d,d<f.blocks.length->Way (toB f) (-1) d)(hf:gX f=true){a:Nat}{x:BlockD}(hx:f.blocks[a]? =some x){g:Int->Int}:
  ∀u'∈lI (renB g O x),∃u∈lI x,u'=fst9 g u:=by
 intro u' hu;unfold lI at hu;rw[aJ,aJ]at hu;rcases hu with(hu|hu)|hu
 ·rw[bC]at hu;obtain⟨p',ad,hu⟩:=hu;obtain⟨p,hp,rfl⟩:=aN.1 (show p'∈x.phis.map (renP g O) from ad);unfold pQ at hu;obtain⟨v',ae,rfl⟩:=aN.1 hu;obtain⟨v,hv,rfl⟩:=aGB hO hall hf hx hp v' ae;refine⟨(v,p.typ), ?_,rfl⟩;unfold lI;rw[aJ,aJ];exact .inl (.inl (bC.2 ⟨p,hp,aN.2 ⟨v,hv,rfl⟩⟩))
 ·rw[bC]at hu;obtain⟨y',af,hu⟩:=hu;obtain⟨y,hy,rfl⟩:=aN.1 (show y'∈x.code.map (renX g) from af);have ab:u'∈(y.args.map g).zip (shp0 y.op).args:=hu;rw[List.zip_map_left]at ab;obtain⟨u,h1,rfl⟩:=aN.1 ab;refine⟨u, ?_,rfl⟩;unfold lI;rw[aJ,aJ];exact .inl (.inr (bC.2 ⟨y,hy,h1⟩))
 ·have ab:u'∈pA { mapT g x.term with to:=x.term.to.map (plO O) }:=hu;have ac:∃u∈pA x.term,u'=fst9 g u:=by
   have e1:(mapT g x.term).op=x.term.op:=by unfold mapT;split<;>rfl
   have aa:u'∈(if (mapT g x.term).op=2 then [((mapT g x.term).val,(2:Int))] else if (mapT g x.term).op=3 then [((mapT g x.term).val,(0:Int))] else []):=ab;rw[e1]at aa;unfold pA;by_cases e2:x.term.op=2
   ·have ev:(mapT g x.term).val=g x.term.val:=by unfold mapT;rw[if_pos (Or.inl e2)]
    rw[if_pos e2,cC,ev]at aa;rw[if_pos e2];exact⟨_,cC.2 rfl,aa⟩
   by_cases e3:x.term.op=3
   ·have ev:(mapT g x.term).val=g x.term.val:=by unfold mapT;rw[if_pos (Or.inr e3)]
    rw[if_neg e2,if_pos e3,cC,ev]at aa;rw[if_neg e2,if_pos e3];exact⟨_,cC.2 rfl,aa⟩
   rw[if_neg e2,if_neg e3]at aa
   cases aa
  obtain⟨u,h1,h2⟩:=ac;refine⟨u, ?_,h2⟩;unfold lI;rw[aJ];exact .inr h1
theorem sP{f:FuncD}{O:List Nat}(hO:fQ f O)(hall:∀d,d<f.blocks.length->Way (toB f) (-1) d){q:Int}(hq:0<=q/\q<f.blocks.length):0<=plO O q/\plO O q<f.blocks.length/\q.toNat∈O:=by have h1:=(hO.facts.2.1 q.toNat).2 (hall _ (by omega));have h2:=aX h1;rw[pY hO hall]at h2;unfold plO;exact⟨by omega,by omega,h1⟩
theorem aGC{O:List Nat}{q r:Int}(hq:0<=q)(hr:0<=r)(hqO:q.toNat∈O)(hrO:r.toNat∈O)(e:plO O q=plO O r):q=r:=by
 unfold plO at e;have h1:=lH hqO;have h2:=lH hrO;have h3:O.idxOf q.toNat=O.idxOf r.toNat:=by omega
 rw[h3,h2]at h1;omega
theorem aGD{f:FuncD}{O:List Nat}(hO:fQ f O)(hall:∀d,d<f.blocks.length->Way (toB f) (-1) d)(hf:gX f=true){a:Nat}{x:BlockD}(hx:f.blocks[a]? =some x){p:PhiD}(hp:p∈x.phis)(hk:jR f.blocks.length p=true)(g:Int->Int):jR f.blocks.length (renP g O p)=true:=by
 obtain⟨p1,p2,p3⟩:=rG hf hx hp;unfold jR at hk⊢;simp only[aK,aY,decide_eq_true_eq,beq_iff_eq]at hk⊢;obtain⟨⟨⟨h1,-⟩,-⟩,-⟩:=hk;refine⟨⟨⟨h1,by unfold renP;simp⟩,fun q hq=> ?_⟩, ?_⟩
 ·have aa:q∈p.src.map (plO O):=(gM _).mem_iff.1 hq;obtain⟨r,hr,rfl⟩:=aN.1 aa;have:=sP hO hall (p3 r hr);unfold numB;simp;omega
 show(kH (p.src.map (plO O))).Nodup;rw[(gM _).nodup_iff,bX,dR];rw[bX]at p1;exact(List.Pairwise.and_mem.1 p1).imp fun {q r} ⟨ha,hb,hne⟩ e=>hne (aGC (p3 q ha).1 (p3 r hb).1 (sP hO hall (p3 q ha)).2.2 (sP hO hall (p3 r hb)).2.2 e)
theorem yM{ar ce:Int}{x:InstrD}(h:gR ar ce x=true)(hr:0<=x.id↔(shp0 x.op).result≠0)(g:Int->Int):gR ar ce (renX g x)=true:=by
 unfold gR at h⊢;simp only[aK]at h⊢;obtain⟨⟨⟨h1,h2⟩,h3⟩,h4⟩:=h;refine⟨⟨⟨h1,by simpa [renX]using h2⟩,h3⟩, ?_⟩;by_cases e:(shp0 x.op).result=0
 ·have hn:¬0<=x.id:=fun h=>(hr.1 h) e;have:(renX g x).id=x.id:=by unfold renX;simp only[if_neg hn]
  rw[this];exact h4
 have:((shp0 (renX g x).op).result != 0)=true:=by simpa [renX]using e
 rw[this];rfl
theorem aGE{f:FuncD}{O:List Nat}(hO:fQ f O)(hall:∀d,d<f.blocks.length->Way (toB f) (-1) d){t:TermD}(h:jB f.blocks.length t=true)(g:Int->Int):jB f.blocks.length { mapT g t with to:=t.to.map (plO O) }=true:=by
 unfold jB at h⊢;rw[aK]at h⊢;obtain⟨h1,h2⟩:=h;refine⟨?_, ?_⟩
 ·rw[aY]at h1⊢;intro q hq;obtain⟨r,hr,rfl⟩:=aN.1 (show q∈t.to.map (plO O) from hq);have h3:=h1 r hr;simp only[aK,decide_eq_true_eq]at h3⊢;obtain⟨k1,k2,k3⟩:=sP hO hall (q:=r) (by omega);refine⟨?_,k2⟩;refine Classical.byContradiction fun hn=> ?_;have h4:plO O r=0:=by omega
  unfold plO at h4;have h5:=lH k3;have h6:O.idxOf r.toNat=0:=by omega
  rw[h6,aH,hO.facts.2.2.2.1]at h5;simp at h5;omega
 have e1:(mapT g t).op=t.op:=by unfold mapT;split<;>rfl
 have e2:(mapT g t).n=t.n:=by unfold mapT;split<;>rfl
 have e3:t.op=1\/t.op=4->(mapT g t).val=t.val:=fun h=>by unfold mapT;rw[if_neg (by omega)]
 simp only[e1,e2,aZ];by_cases e:t.op=1\/t.op=4
 ·rw[e3 e];exact h2
 have n1:(t.op == 1)=false:=by simpa using fun h=>e (.inl h)
 have n4:(t.op == 4)=false:=by simpa using fun h=>e (.inr h)
 rw[n1,n4]at h2⊢;simpa using h2
theorem sQ{f:FuncD}{O:List Nat}(hc:fO f=0)(hF:gE f 0 0)(hO:fQ f O):fO (renF f O)=0:=by
 have aa:=iC hF;have hN:=jY hc hO aa;have hf:=(fT hc).1;obtain⟨h1,h2,h3,h4,h5⟩:=jQ.1 hc;rw[jQ];have hl:=uT hO aa;refine⟨?_,h2,fun k y hy=> ?_, ?_,fun y hy u hu=> ?_⟩
 ·unfold kA at h1⊢;rw[aIG hO aa,hl];exact h1
 ·obtain⟨a,ha,rfl⟩:=sO hy;have ab:=hO.facts.2.2.1 a (aG ha);have hx:=aA ab;rw[gK hx];obtain⟨q1,q2,q3,q4⟩:=iN.1 (h3 a _ hx);rw[hl];show gV f.blocks.length f.arrays f.cells (_,k)=true;rw[iN];refine⟨fun hk=> ?_,fun p hp=> ?_, ?_,aGE hO aa q4 _⟩
  ·subst hk;rw[hO.facts.2.2.2.1]at ha;injection ha with ha;show(f.blocks[a].phis.map _)=[];rw[q1 ha.symm];rfl
  ·obtain⟨p0,ae,rfl⟩:=aN.1 (show p∈f.blocks[a].phis.map (renP (rho f O) O) from hp);exact aGD hO aa hf hx ae (q2 p0 ae) _
  rw[aY]at q3⊢;intro z hz;obtain⟨z0,ac,rfl⟩:=aN.1 (show z∈f.blocks[a].code.map (renX (rho f O)) from hz);exact yM (q3 z0 ac) (pT hc _ (dD ab) z0 ac) _
 ·have ag:(renF f O).params=f.params:=rfl;unfold idsF;rw[ag];unfold idsB;rw[aK,decide_eq_true_eq,aY];refine⟨wX hc hO aa,fun p hp=> ?_⟩;have ad:p.1∈(mX (renF f O)).map (·.1):=fI (f:=Prod.fst) hp;rw[aAB hc hO]at ad;obtain⟨v,hv,e⟩:=aN.1 ad;obtain⟨k,hk,e2⟩:=aIX hN hv;have h6:=aK4 hc hO aa;have h7:f.params.length<=16:=by unfold kA at h1;simp only[aK,decide_eq_true_eq]at h1;exact h1.1.1.1.1.1.1.1
  rw[<-e,e2];show(!decide (((f.params.length+k:Nat):Int)<(f.params.length:Int))&&decide (((f.params.length+k:Nat):Int)<1048576))=true;simp;omega
 obtain⟨k,hk⟩:=bP hy;obtain⟨a,ha,rfl⟩:=sO hk;have ab:=hO.facts.2.2.1 a (aG ha);have hx:=aA ab;rw[gK hx]at hu;obtain⟨u0,af,rfl⟩:=aII hO aa hf hx u hu;obtain⟨k1,k2⟩:=h5 _ (dD ab) u0 af;obtain⟨t,ht⟩:=eI.1 k1;have h8:=aMY hc hO aa ht;show(tyOf (fX (renF f O)) (rho f O u0.1)).isSome=true/\mJ (fX (renF f O)) (rho f O u0.1,u0.2)=false;rw[h8];refine⟨rfl, ?_⟩;unfold mJ at k2⊢;rw[ht]at k2;simp only[h8];exact k2
end
end Go.Proofs.YtagabiidbbhhmaaGreat
