/- Part 55. -/
import Derived.Test.YtcmflfkpeodicaaGreatIRA51
namespace Go.Proofs.YtcmflfkpeodicaaGreat
set_option linter.all false
section
open Go Go.RowKit
namespace Seven
section
variable {P:Program} {ops:Array Oper} {hr:Nat -> Option Nat}
inductive Known where
 | plain
 | const (v:Value)
 | holds (S:Value -> Foot -> World -> Prop)
abbrev Gh:=Nat -> Value × Foot
def Known.fact:Known -> Value × Foot -> World -> Prop
 | .holds S,g,w=>S g.1 g.2 w
 | _,_,_=>True
def Known.foot:Known -> Value × Foot -> Foot
 | .holds _,g=>g.2
 | _,_=>Foot.none
def Known.val:Known -> Value -> Value
 | .const v,_=>v
 | _,u=>u
def Known.spec:Known -> Value -> Foot -> World -> Prop
 | .plain,_,_,_=>False
 | .const v,u,_,_=>u=v
 | .holds S,u, φ,w=>S u φ w
def firm (n0:Nat) (k:Known):Prop:=match k with
 | .holds S => ∀ u φ w1 w2 D,S u φ w1 -> Off D w1 w2 -> φ.off D -> (∀ b,D b -> n0 <= b) -> (∀ b, φ b -> b < w1.heap.size) -> n0 <= w1.heap.size -> S u φ w2
 | _=>True
structure Held (Ss:Nat -> Known) (ν : Gh) (T:Nat -> Prop) (n0:Nat) (w:World):Prop where
 fact:∀ j,T j -> (Ss j).fact (ν j) w
 base:∀ j b,T j -> (Ss j).foot (ν j) b -> n0 <= b
 lt:∀ j b,T j -> (Ss j).foot (ν j) b -> b < w.heap.size
 apart:∀ i j,T i -> T j -> i ≠ j -> ((Ss i).foot (ν i)).off ((Ss j).foot (ν j))
theorem Held.sub {Ss:Nat -> Known} {ν : Gh} {T T' : Nat -> Prop} {n0:Nat} {w:World} (h:Held Ss ν T n0 w) (hT:∀ j,T' j -> T j):Held Ss ν T' n0 w :=
 ⟨fun j hj=>h.fact j (hT j hj),fun j b hj=>h.base j b (hT j hj),fun j b hj=>h.lt j b (hT j hj),fun i j hi hj=>h.apart i j (hT i hi) (hT j hj)⟩
theorem Held.congr {Ss Ss' : Nat -> Known} {ν ν' : Gh} {T:Nat -> Prop} {n0:Nat} {w:World} (h:Held Ss ν T n0 w) (hs:∀ j,T j -> Ss' j=Ss j /\ ν' j = ν j):Held Ss' ν' T n0 w:=by
 refine ⟨fun j hj => ?_,fun j b hj hb => ?_,fun j b hj hb => ?_,fun i j hi hj hne => ?_⟩
 ·obtain ⟨e1,e2⟩:=hs j hj;rw [e1,e2];exact h.fact j hj
 ·obtain ⟨e1,e2⟩:=hs j hj;rw [e1,e2] at hb;exact h.base j b hj hb
 ·obtain ⟨e1,e2⟩:=hs j hj;rw [e1,e2] at hb;exact h.lt j b hj hb
 obtain ⟨e1,e2⟩:=hs j hj;obtain ⟨e3,e4⟩:=hs i hi;rw [e1,e2,e3,e4];exact h.apart i j hi hj hne
theorem Held.step {Ss Ss' : Nat -> Known} {ν ν' : Gh} {T T' : Nat -> Prop} {n0 i:Nat} {w w' : World} {E:Foot} (h:Held Ss ν T n0 w) (hT:∀ j,T' j -> j ≠ i -> T j) (hs:∀ j,T' j -> j ≠ i -> Ss' j=Ss j /\ ν' j = ν j)
  (ho:Off E w w') (hE:∀ b,E b -> n0 <= b) (hoff:∀ j,T' j -> j ≠ i -> ((Ss j).foot (ν j)).off E) (hfirm:∀ j,firm n0 (Ss j)) (hn:n0 <= w.heap.size)
  (hi:(Ss' i).fact (ν' i) w') (hib:∀ b,(Ss' i).foot (ν' i) b -> (E b \/ w.heap.size <= b)/\b < w'.heap.size):Held Ss' ν' T' n0 w':=by
 have cross:∀ j,T' j -> j ≠ i -> ((Ss' i).foot (ν' i)).off ((Ss' j).foot (ν' j)):=fun j hj hne b h1 h2=>by
  obtain ⟨e1,e2⟩:=hs j hj hne
  rw [e1,e2] at h2
  rcases (hib b h1).1 with h3 | h3
  ·exact hoff j hj hne b h2 h3
  have:=h.lt j b (hT j hj hne) h2;omega
 refine ⟨fun j hj => ?_,fun j b hj hb => ?_,fun j b hj hb => ?_,fun a j ha hj hne => ?_⟩
 ·by_cases e:j=i
  ·subst e;exact hi
  obtain ⟨e1,e2⟩:=hs j hj e
  rw [e1,e2]
  have h1:=h.fact j (hT j hj e)
  have h2:=hoff j hj e
  have h3:=hfirm j
  have h4:=h.lt j
  have h5:=hT j hj e
  generalize Ss j=s at h1 h2 h3 h4 ⊢
  cases s with
  | holds S=>exact h3 _ _ _ _ _ h1 ho h2 hE (fun b hb=>h4 b h5 hb) hn
  | _=>trivial
 ·by_cases e:j=i
  ·subst e
   rcases (hib b hb).1 with h3 | h3
   ·exact hE b h3
   omega
  obtain ⟨e1,e2⟩:=hs j hj e
  rw [e1,e2] at hb
  exact h.base j b (hT j hj e) hb
 ·by_cases e:j=i
  ·subst e;exact (hib b hb).2
  obtain ⟨e1,e2⟩:=hs j hj e
  rw [e1,e2] at hb
  exact aL (h.lt j b (hT j hj e) hb) ho.size
 ·by_cases e:a=i
  ·subst e;exact cross j hj (fun e=>hne e.symm)
  by_cases e' : j=i
  ·subst e';exact (cross a ha e).symm
  obtain ⟨e1,e2⟩:=hs j hj e'
  obtain ⟨e3,e4⟩:=hs a ha e
  rw [e1,e2,e3,e4]
  exact h.apart a j (hT a ha e) (hT j hj e') hne
def Eats (hr:Nat -> Option Nat) (Ss:Nat -> Known) (ν : Gh) (k:Nat):Foot:=fun b => ∃ j,hr j=some k/\(Ss j).foot (ν j) b
def Sees (hr:Nat -> Option Nat) (ops:Array Oper) (k j:Nat):Prop:=depB ops ops.size k j=true/\(hr j=none \/ hr j=some k)
def yQ (S:Value -> Foot -> World -> Prop) (E:Foot) (w:World) (u:Value) (w' : World):Prop := ∃ φ : Foot,S u φ w' /\ Off E w w' /\ ∀ b, φ b -> (E b \/ w.heap.size <= b)/\b < w'.heap.size
def Oper.gives (P:Program) (o:Oper) (a:Act) (w:World) (S:Value -> Foot -> World -> Prop) (E:Foot):Prop :=
 (∃ u w',((execOp a.eval o).run P w = .ok (.value u) w' \/ ((execOp a.eval o).run P w = .ok .skip w' /\ u=undef))/\yQ S E w u w') \/
 ∃ f args,(execOp a.eval o).run P w = .ok (.enter f args) w/\Calls P f args w fun e w' => ∃ u,e = .returned u/\yQ S E w u w'
def MadeS (mk:Nat -> Value) (A:Array Value):Value -> Foot -> World -> Prop:=fun u φ w => ∃ b,u=mk b/\(∀ k, φ k ↔ k=b)/\Box w b A
theorem MadeS.off {mk:Nat -> Value} {A:Array Value} {u:Value} {φ D:Foot} {w w' : World} (h:MadeS mk A u φ w) (ho:Off D w w') (hn : φ.off D):MadeS mk A u φ w':=by
 obtain ⟨b,h1,h2,h3⟩:=h
 exact ⟨b,h1,h2,h3.off ho (hn b ((h2 b).2 rfl))⟩
theorem wL (mk:Nat -> Value) (A:Array Value) (T:TypeId) (w:World) {E:Foot}:yQ (Known.holds (MadeS mk A)).spec E w (mk w.heap.size) (w.alloc (.cells A T)) :=
 ⟨Foot.one w.heap.size,⟨_,rfl,fun k=>Iff.rfl,Box.new _ _ _⟩,Off.alloc _ _ _,fun b hb=>by cases hb;exact ⟨.inr (aF _),by simp⟩⟩
def Grow (hr:Nat -> Option Nat) (P:Program) (ops:Array Oper) (w0:World) (Ss:Gh -> Nat -> Known) (ν : Gh) (L:Act -> World -> Prop):List Oper -> Nat -> Act -> Prop
 | [],k,a => ∀ w',Below w0.heap.size w0 w' -> Held (Ss ν) ν (fun j=>j < k/\hr j=none) w0.heap.size w' -> L a w'
 | o :: rest,k,a =>
  if Region.wanted o (yielded ops a.tmps) then
   (Ss ν k = .plain /\ ∃ v,(∀ w',Below w0.heap.size w0 w' -> Held (Ss ν) ν (Sees hr ops k) w0.heap.size w' -> Oper.yields P o a w' v)/\Grow hr P ops w0 Ss ν L rest (k+1) (a.put o.dst v)) \/
   (Ss ν k ≠ .plain/\(∀ w',Below w0.heap.size w0 w' -> Held (Ss ν) ν (Sees hr ops k) w0.heap.size w' -> Oper.gives P o a w' (Ss ν k).spec (Eats hr (Ss ν) ν k))/\Grow hr P ops w0 Ss ν L rest (k+1) (a.put o.dst ((Ss ν k).val (ν k).1)))
  else Ss ν k = .plain/\Grow hr P ops w0 Ss ν L rest (k+1) (a.put o.dst undef)
section
variable {w0:World} {Ss:Gh -> Nat -> Known} {ν : Gh} {L:Act -> World -> Prop} {o:Oper} {rest:List Oper} {k:Nat} {a:Act}
theorem Grow.val {v:Value} (hg:Region.wanted o (yielded ops a.tmps)=true) (hk:Ss ν k = .plain)
  (hy:∀ w',Below w0.heap.size w0 w' -> Held (Ss ν) ν (Sees hr ops k) w0.heap.size w' -> (execOp a.eval o).run P w' = .ok (.value v) w') (h:Grow hr P ops w0 Ss ν L rest (k+1) (a.put o.dst v)):Grow hr P ops w0 Ss ν L (o :: rest) k a:=by
 simp only [Grow,hg,if_true]
 exact .inl ⟨hk,v,fun w' h1 h2=>⟨w',.inl (hy w' h1 h2),Below.refl _ _⟩,h⟩
theorem Grow.call {f:FuncId} {args:Array Value} (hg:Region.wanted o (yielded ops a.tmps)=true) (hk:Ss ν k ≠ .plain)
  (hrun:∀ w' : World,(execOp a.eval o).run P w' = .ok (.enter f args) w')
  (hy:∀ w',Below w0.heap.size w0 w' -> Held (Ss ν) ν (Sees hr ops k) w0.heap.size w' -> Calls P f args w' fun e w'' => ∃ u φ,e = .returned u/\(Ss ν k).spec u φ w'' /\ Below w'.heap.size w' w'' /\ ∀ b, φ b -> w'.heap.size <= b/\b < w''.heap.size)
  (h:Grow hr P ops w0 Ss ν L rest (k+1) (a.put o.dst ((Ss ν k).val (ν k).1))):Grow hr P ops w0 Ss ν L (o :: rest) k a:=by
 simp only [Grow,hg,if_true]
 exact .inr ⟨hk,fun w' h1 h2=>.inr ⟨f,args,hrun w',(hy w' h1 h2).mono fun e w'' ⟨u, φ,e1,e2,e3,e4⟩=>⟨u,e1, φ,e2,Off.of_below e3 _,fun b hb=>⟨.inr (e4 b hb).1,(e4 b hb).2⟩⟩⟩,h⟩
theorem Grow.gives (hg:Region.wanted o (yielded ops a.tmps)=true) (hk:Ss ν k ≠ .plain)
  (hy:∀ w',Below w0.heap.size w0 w' -> Held (Ss ν) ν (Sees hr ops k) w0.heap.size w' -> ∃ u w'',(execOp a.eval o).run P w' = .ok (.value u) w'' /\ yQ (Ss ν k).spec (Eats hr (Ss ν) ν k) w' u w'')
  (h:Grow hr P ops w0 Ss ν L rest (k+1) (a.put o.dst ((Ss ν k).val (ν k).1))):Grow hr P ops w0 Ss ν L (o :: rest) k a:=by
 simp only [Grow,hg,if_true]
 exact .inr ⟨hk,fun w' h1 h2=>.inl (let ⟨u,w'',q1,q2⟩:=hy w' h1 h2; ⟨u,w'',.inl q1,q2⟩),h⟩
theorem Grow.made {mk:Nat -> Value} {A:Array Value} {T:TypeId} (hg:Region.wanted o (yielded ops a.tmps)=true) (hk:Ss ν k = .holds (MadeS mk A))
  (hy:∀ w',Below w0.heap.size w0 w' -> Held (Ss ν) ν (Sees hr ops k) w0.heap.size w' -> (execOp a.eval o).run P w' = .ok (.value (mk w'.heap.size)) (w'.alloc (.cells A T)))
  (h:Grow hr P ops w0 Ss ν L rest (k+1) (a.put o.dst ((Ss ν k).val (ν k).1))):Grow hr P ops w0 Ss ν L (o :: rest) k a :=
 Grow.gives hg (by rw [hk];intro h;cases h) (fun w' h1 h2=>⟨_,_,hy w' h1 h2,by rw [hk];exact wL _ _ _ _⟩) h
end
def jP (hr:Nat -> Option Nat) (P:Program) (ops:Array Oper) (w0:World) (Ss:Gh -> Nat -> Known) (ν : Gh) (o:Oper) (k:Nat) (a:Act) (v:Value):Prop :=
 (Region.wanted o (yielded ops a.tmps)=true/\Ss ν k = .plain /\ ∀ w',Below w0.heap.size w0 w' -> Held (Ss ν) ν (Sees hr ops k) w0.heap.size w' -> Oper.yields P o a w' v) \/
 (Region.wanted o (yielded ops a.tmps)=true/\Ss ν k ≠ .plain/\v=(Ss ν k).val (ν k).1 /\ ∀ w',Below w0.heap.size w0 w' -> Held (Ss ν) ν (Sees hr ops k) w0.heap.size w' -> Oper.gives P o a w' (Ss ν k).spec (Eats hr (Ss ν) ν k)) \/
 (Region.wanted o (yielded ops a.tmps)=false/\Ss ν k = .plain/\v=undef)
structure Told (hr:Nat -> Option Nat) (P:Program) (ops:Array Oper) (n:Nat) (w0:World) (Ss:Gh -> Nat -> Known) (L:Act -> World -> Prop) (a0:Act) (ν : Gh) (vals:Nat -> Value):Prop where
 step:∀ k o,ops[k]? = some o -> k < n -> ∃ b,Fr ops n a0 vals (· < k) b/\jP hr P ops w0 Ss ν o k b (vals k)
 done:∃ b,Fr ops n a0 vals (· < n) b /\ ∀ w',Below w0.heap.size w0 w' -> Held (Ss ν) ν (fun j=>j < n/\hr j=none) w0.heap.size w' -> L b w'
theorem jG {n:Nat} {w0:World} {Ss:Gh -> Nat -> Known} {L:Act -> World -> Prop} {a0:Act} {ν : Gh} (ht:lE ops n=true) :
  ∀ (l:List Oper) (k:Nat) (a:Act) (v0:Nat -> Value),(∀ j,j < l.length -> ops[k+j]? = l[j]?) -> k+l.length=n -> Fr ops n a0 v0 (· < k) a -> Grow hr P ops w0 Ss ν L l k a ->
   ∃ vals:Nat -> Value,(∀ j,j < k -> vals j=v0 j)/\(∀ j o,ops[j]? = some o -> k <= j -> j < n -> ∃ b,Fr ops n a0 vals (· < j) b/\jP hr P ops w0 Ss ν o j b (vals j)) /\
    ∃ b,Fr ops n a0 vals (· < n) b /\ ∀ w',Below w0.heap.size w0 w' -> Held (Ss ν) ν (fun j=>j < n/\hr j=none) w0.heap.size w' -> L b w'
 | [],k,a,v0,_,hk,hf,h=>by
  have hk' : k=n:=by simpa using hk
  subst hk'
  exact ⟨v0,fun _ _=>rfl,fun j o _ h1 h2=>by omega,a,hf,h⟩
 | o :: rest,k,a,v0,hl,hk,hf,h=>by
  simp only [bB] at hk
  have ho:ops[k]? = some o:=by simpa using hl 0 (by simp)
  have hl' : ∀ j,j < rest.length -> ops[k+1+j]? = rest[j]?:=fun j hj=>by
   have:=hl (j+1) (by simp;omega)
   simpa [Nat.add_assoc,Nat.add_comm 1 j] using this
  have key:∃ v,jP hr P ops w0 Ss ν o k a v/\Grow hr P ops w0 Ss ν L rest (k+1) (a.put o.dst v):=by
   simp only [Grow] at h
   by_cases hw:Region.wanted o (yielded ops a.tmps)=true
   ·simp only [hw,if_true] at h
    rcases h with ⟨h1,v,h2,h3⟩ | ⟨h1,h2,h3⟩
    ·exact ⟨v,.inl ⟨hw,h1,h2⟩,h3⟩
    exact ⟨_,.inr (.inl ⟨hw,h1,rfl,h2⟩),h3⟩
   simp only [dI] at hw
   simp only [hw,bL,if_false] at h
   exact ⟨undef,.inr (.inr ⟨hw,h.1,rfl⟩),h.2⟩
  obtain ⟨v,hs,hg⟩:=key
  let v1:Nat -> Value:=fun j=>if j=k then v else v0 j
  have e1:∀ j,j < k -> v1 j=v0 j:=fun j hj=>by simp only [v1];rw [if_neg (by omega)]
  have ek:v1 k=v:=by simp [v1]
  have hf1:Fr ops n a0 v1 (· < k) a:=hf.congr (fun j _ hj=>(e1 j hj).symm) (fun _ _=>Iff.rfl)
  have hf2:=hf1.put ht ho (by omega)
  rw [ek] at hf2
  have hf3:Fr ops n a0 v1 (· < k+1) (a.put o.dst v):=hf2.congr (fun _ _ _=>rfl) (fun j _=>by omega)
  obtain ⟨vals,hv,hst,hd⟩:=jG ht rest (k+1) _ v1 hl' (by omega) hf3 hg
  refine ⟨vals,fun j hj=>(hv j (by omega)).trans (e1 j hj),fun j oj hj hkj hjn => ?_,hd⟩
  by_cases hjk:j=k
  ·subst hjk
   rw [ho] at hj
   cases hj
   refine ⟨a,hf1.congr (fun i _ hi=>(hv i (by omega)).symm) (fun _ _=>Iff.rfl), ?_⟩
   rw [hv j (by omega),ek]
   exact hs
  exact hst j oj hj (by omega) hjn
theorem oF {n:Nat} {w0:World} {Ss:Gh -> Nat -> Known} {L:Act -> World -> Prop} {a0:Act} {ν : Gh} {l:List Oper} (ht:lE ops n=true) (hl:∀ j,j < l.length -> ops[j]? = l[j]?) (hn:l.length=n)
  (h:Grow hr P ops w0 Ss ν L l 0 a0):∃ vals,Told hr P ops n w0 Ss L a0 ν vals:=by
 obtain ⟨vals,_,h1,h2⟩:=jG ht l 0 a0 (fun _=>undef) (fun j hj=>by rw [bH];exact hl j hj) (by omega) (Fr.start fun j _ hj=>by omega) h
 exact ⟨vals,fun k o hk hkn=>h1 k o hk (by omega) hkn,h2⟩
theorem lA {n:Nat} {w0:World} {Ss:Gh -> Nat -> Known} {L L' : Act -> World -> Prop} {a0:Act} {ν ν' : Gh} {vals vals' : Nat -> Value} {listed:Array Bool} (ht:lE ops n=true) (hsel:Region.noSelect ops=true) (hn:n <= ops.size) (hS:∀ ν ν' k,(∀ q,depB ops ops.size k q=true -> ν q = ν' q) -> Ss ν k=Ss ν' k)
  (hc:∀ j oj,ops[j]? = some oj -> listed.getD j false=true -> ∀ e ∈ oj.after,Region.binds .any e=true -> listed.getD e.on false=true)
  (h:Told hr P ops n w0 Ss L a0 ν vals) (h' : Told hr P ops n w0 Ss L' a0 ν' vals') (hw:∀ j,listed.getD j false=true -> ∃ wj,Below w0.heap.size w0 wj/\Held (Ss ν) ν (Sees hr ops j) w0.heap.size wj)
  (hν : ∀ j,listed.getD j false=true -> ν j = ν' j):∀ (j:Nat),j < n -> listed.getD j false=true -> vals j=vals' j:=by
 intro j
 induction j using Nat.strongRecOn with
 | _ j ih =>
  intro hjn hlj
  cases ho:ops[j]? with
  | none =>
   have:=(cA.1 ho)
   omega
  | some o =>
   obtain ⟨b,hb1,hs⟩:=h.step j o ho hjn
   obtain ⟨b',hb2,hs'⟩:=h'.step j o ho hjn
   have hin:∀ i,i < n -> gZ ops j i=true -> i < j -> i < j/\i < j/\vals i=vals' i:=fun i hi he hij=>by
    obtain ⟨oj,hoj,e,hem,hbi,hon⟩:=fT he
    refine ⟨hij,hij,ih i hij hi ?_⟩
    rw [<-hon]
    exact hc j oj hoj hlj e hem hbi
   obtain ⟨ex,ew⟩:=iN (ops:=ops) (o:=o) (fun cs b=>Region.noSelect_spec hsel j o cs b ho) (fun d hd=>Fr.same ht hb1 hb2 ho hjn hin d hd)
   have hdep:∀ i,depB ops ops.size j i=true -> listed.getD i false=true:=fun i hi =>
    fU rfl hc ops.size j i (fun o' ho'=>hc j o' ho' hlj) hi
   have hag:∀ i,listed.getD i false=true -> Ss ν' i=Ss ν i:=fun i hl=>hS ν' ν i fun q hq=>(hν q (fU rfl hc ops.size i q (fun o' ho'=>hc i o' ho' hl) hq)).symm
   have hSj:=hag j hlj
   unfold jP at hs'
   rw [hSj] at hs'
   obtain ⟨w',hb,F1⟩:=hw j hlj
   have F2:Held (Ss ν') ν' (Sees hr ops j) w0.heap.size w':=F1.congr fun i hi=>⟨hag i (hdep i hi.1),(hν i (hdep i hi.1)).symm⟩
   rcases hs with ⟨w1,p1,y1⟩ | ⟨w1,p1,e1,y1⟩ | ⟨w1,p1,e1⟩ <;> rcases hs' with ⟨w2,p2,y2⟩ | ⟨w2,p2,e2,y2⟩ | ⟨w2,p2,e2⟩
   ·obtain ⟨x,r1,_⟩:=y1 w' hb F1
    obtain ⟨y,r2,_⟩:=y2 w' hb F2
    rw [<-ex] at r2
    rcases r1 with r1 | ⟨r1,q1⟩ <;> rcases r2 with r2 | ⟨r2,q2⟩ <;> rw [r1] at r2 <;> simp_all
   ·exact absurd p1 p2
   ·rw [ew,w2] at w1;cases w1
   ·exact absurd p2 p1
   ·rw [e1,e2,hν j hlj]
   ·rw [ew,w2] at w1;cases w1
   ·rw [ew,w2] at w1;cases w1
   ·rw [ew,w2] at w1;cases w1
   rw [e1,e2]
set_option maxHeartbeats 1000000 in
theorem mN {n:Nat} {w0:World} {Ss:Gh -> Nat -> Known} {Q:Exit -> Act -> World -> Prop} {tail:List Oper} {a0:Act} (hB:jJ ops n=true) (hfirm:∀ ν j,firm w0.heap.size (Ss ν j)) (hS:∀ ν ν' k,(∀ q,depB ops ops.size k q=true -> ν q = ν' q) -> Ss ν k=Ss ν' k) (hH:∀ j k,hr j=some k -> depB ops ops.size k j=true/\k < n)
  (htail:∀ j,tail[j]? = ops[n+j]?) (hall:∀ ν, ∃ vals,Told hr P ops n w0 Ss (wpList P ops Q tail) a0 ν vals) :
  ∀ (m:Nat) (listed:Array Bool) (a:Act) (w:World) (ν : Gh) (vals:Nat -> Value),HeadInv .any ops n listed -> cnt listed n=m -> Told hr P ops n w0 Ss (wpList P ops Q tail) a0 ν vals ->
   Below w0.heap.size w0 w -> (∀ j,listed.getD j false=true -> ∃ wj,Below w0.heap.size w0 wj/\Held (Ss ν) ν (Sees hr ops j) w0.heap.size wj) -> Held (Ss ν) ν (fun j=>listed.getD j false=true /\ ∀ h,hr j=some h -> listed.getD h false=false) w0.heap.size w -> Fr ops n a0 vals (fun j=>listed.getD j false=true) a -> wpAny P .any ops Q (m+(ops.size - n)) listed a w:=by
 simp only [jJ,aN,bQ,decide_eq_true_eq,beq_iff_eq] at hB
 obtain ⟨⟨⟨⟨⟨hsel,hn⟩,hed⟩,ht⟩,hsc⟩,hseq⟩:=hB
 intro m
 induction m with
 | zero =>
  intro listed a w ν vals inv hcnt htold hb hwit hf hfr
  have hlen:tail.length=ops.size - n:=by
   apply dV
   ·by_cases hle:tail.length <= ops.size - n
    ·exact hle
    have h1:=htail (ops.size - n)
    rw [bA (by omega)] at h1
    have:=dD.1 h1
    omega
   by_cases hle:ops.size - n <= tail.length
   ·exact hle
   have h1:=htail tail.length
   rw [aW (aF _)] at h1
   have:=cA.1 h1.symm
   omega
  have hl:∀ j,j < n -> listed.getD j false=true:=fun j hj=>fI (jI n hcnt j hj) (by rw [inv.size];omega)
  have hlist:listed=fP ops.size n:=by
   apply dF
   intro j
   by_cases hj:j < ops.size
   ·have e2:(fP ops.size n)[j]? = some (decide (j < n)):=by simp [fP,hj]
    rw [e2]
    by_cases hjn:j < n
    ·have:=hl j hjn
     rw [bI] at this
     cases hx:listed[j]? with
     | none=>rw [hx] at this;cases this
     | some b=>rw [hx] at this;simp at this;rw [this,decide_eq_true hjn]
    have:=inv.tail j (by omega) hj
    rw [bI] at this
    cases hx:listed[j]? with
    | none=>rw [hx] at this;cases this
    | some b=>rw [hx] at this;simp at this;rw [this,decide_eq_false hjn]
   rw [bA (by rw [inv.size];omega),bA (by simp [fP];omega)]
  obtain ⟨b,hb1,hb2⟩:=htold.done
  have hab:a=b:=hfr.eq hb1 fun j hj=>⟨fun _=>hj,fun _=>hl j hj⟩
  subst hab
  have:=wpAny_of_seq (md:=.any) (Q':=Q) tail n listed a w htail (by rw [hlist,hlen];exact hseq) (hb2 w hb (hf.sub fun j hj=>⟨hl j hj.1,fun h hh=>by rw [hj.2] at hh;cases hh⟩))
  rw [hlen] at this
  rw [bH]
  exact this
 | succ m ih =>
  intro listed a w ν vals inv hcnt htold hb hwit hf hfr
  rw [show m+1+(ops.size - n)=(m+(ops.size - n))+1 by omega]
  obtain ⟨k0,hk0,hu0,hless⟩:=jR (listed:=listed) n (by omega)
  have hready0:k0 ∈ Region.ready .any ops listed:=by
   refine mem_ready.2 ⟨hu0,ops[k0],bC (by omega),fun e he hbi => ?_⟩
   have:=iD hed hk0 (bC (by omega)) he hbi
   exact fI (hless _ this) (by rw [inv.size];omega)
  refine ⟨fun h0=>(by rw [h0] at hready0;cases hready0),fun i hi => ?_⟩
  have hin:i < n:=by
   rcases dC i n with h | h
   ·exact h
   rcases hsc with h1 | h1
   ·obtain ⟨_,o,ho,_⟩:=mem_ready.1 hi
    have:=(aS.1 ho).1
    omega
   by_cases hns:n < ops.size
   ·exact absurd hi (tail_waits h1.1 h1.2 hns inv _ k0 rfl hk0 hu0 i h)
   obtain ⟨_,o,ho,_⟩:=mem_ready.1 hi
   have:=(aS.1 ho).1
   omega
  obtain ⟨hun,o,ho,hedge⟩:=mem_ready.1 hi
  have hinv':=inv.set hi hin
  have hcnt' : cnt (listed.setIfInBounds i true) n=m:=by
   have:=(mH (by rw [inv.size];omega) hun n).2 hin
   omega
  have hset:∀ j,(listed.setIfInBounds i true).getD j false=true ↔ (j=i \/ listed.getD j false=true):=fun j=>by
   by_cases e:i=j
   ·subst e
    have:i < listed.size:=by rw [inv.size];omega
    simp [this]
   rw [getD_set_ne false e]
   exact ⟨fun h=>.inr h,fun h=>h.resolve_left (fun e'=>e e'.symm)⟩
  obtain ⟨b,hfb,hstep⟩:=htold.step i o ho hin
  have hlook:∀ d,d ∈ o.looksAt ops -> a.tmps[d]? = b.tmps[d]?:=fun d hd=>Fr.same ht hfr hfb ho hin (fun j hj he hji=>by
   obtain ⟨oj,hoj,e,hem,hbi,hon⟩:=fT he
   rw [ho] at hoj
   cases hoj
   exact ⟨by rw [<-hon];exact hedge e hem hbi,hji,rfl⟩) d hd
  obtain ⟨ex,ew⟩:=iN (ops:=ops) (o:=o) (fun cs b=>Region.noSelect_spec hsel i o cs b ho) hlook
  have hdep:∀ j,depB ops ops.size i j=true -> listed.getD j false=true:=fun j hj =>
   fU rfl inv.closed ops.size i j (fun o' ho'=>by rw [ho] at ho';cases ho';exact hedge) hj
  have hunf:listed.getD i false=false:=getD_both hun
  have hlive:∀ j,Sees hr ops i j -> listed.getD j false=true /\ ∀ h,hr j=some h -> listed.getD h false=false:=fun j hj=>⟨hdep j hj.1,fun h hh=>by
   rcases hj.2 with e | e <;> rw [e] at hh <;> cases hh
   exact hunf⟩
  have hfacts:Held (Ss ν) ν (Sees hr ops i) w0.heap.size w:=hf.sub hlive
  have hsz:w0.heap.size <= w.heap.size:=hb.size
  have heat:∀ j,hr j=some i -> listed.getD j false=true /\ ∀ h,hr j=some h -> listed.getD h false=false:=fun j hj=>hlive j ⟨(hH j i hj).1,.inr hj⟩
  have hEb:∀ b,Eats hr (Ss ν) ν i b -> w0.heap.size <= b:=fun b ⟨j,hj,hb⟩=>hf.base j b (heat j hj) hb
  have hlive' : ∀ j,((listed.setIfInBounds i true).getD j false=true /\ ∀ h,hr j=some h -> (listed.setIfInBounds i true).getD h false=false) -> j ≠ i -> listed.getD j false=true /\ ∀ h,hr j=some h -> listed.getD h false=false:=fun j ⟨h1,h2⟩ hne =>
   ⟨((hset j).1 h1).resolve_left hne,fun h hh=>by
    have h3:=h2 h hh
    cases hx:listed.getD h false with
    | false=>rfl
    | true=>rw [(hset h).2 (.inr hx)] at h3;cases h3⟩
  have hEoff:∀ j,((listed.setIfInBounds i true).getD j false=true /\ ∀ h,hr j=some h -> (listed.setIfInBounds i true).getD h false=false) -> j ≠ i -> ((Ss ν j).foot (ν j)).off (Eats hr (Ss ν) ν i):=fun j hj hne b h1 ⟨j2,h2,h3⟩=>by
   have hne2:j ≠ j2:=fun e=>by
    subst e
    have:=hj.2 i h2
    rw [(hset i).2 (.inl rfl)] at this
    cases this
   exact hf.apart j j2 (hlive' j hj hne) (heat j2 h2) hne2 b h1 h3
  -- the frame and the facts behind a step that leaves ν as it was
  have next:∀ (w' : World),Below w.heap.size w w' -> Ss ν i = .plain -> wpAny P .any ops Q (m+(ops.size - n)) (listed.setIfInBounds i true) (a.put o.dst (vals i)) w':=fun w' hg hp=>by
   refine ih _ _ _ ν vals hinv' hcnt' htold (Below.more hb hsz hg) (fun j hl=>by
    rcases (hset j).1 hl with rfl | hl
    ·exact ⟨w,hb,hfacts⟩
    exact hwit j hl) ?_ ((hfr.put ht ho hin).congr (fun _ _ _=>rfl) (fun j _=>(hset j).symm))
   exact hf.step (i:=i) (E:=Foot.none) hlive' (fun _ _ _=>⟨rfl,rfl⟩) (Off.of_below hg _) (fun b h=>h.elim) (fun j _ _ b _ h=>h.elim) (hfirm ν) hsz (by rw [hp];trivial) (by rw [hp];intro b h;exact h.elim)
  -- the same where the step gives the operation's own ghost
  have fresh:∀ (u:Value) (w' : World),Ss ν i ≠ .plain -> yQ (Ss ν i).spec (Eats hr (Ss ν) ν i) w u w' ->
    wpAny P .any ops Q (m+(ops.size - n)) (listed.setIfInBounds i true) (a.put o.dst u) w':=fun u w' hnp ⟨φ,hs,hg,hφ⟩=>by
   let ν' : Gh:=fun j=>if j=i then (u, φ) else ν j
   have hνi : ν' i=(u, φ):=by simp [ν']
   have hνj:∀ j,listed.getD j false=true -> ν j = ν' j:=fun j hj=>by
    have hne:j ≠ i:=fun e=>by rw [e,hunf] at hj;cases hj
    simp [ν',hne]
   obtain ⟨vals',htold'⟩:=hall ν'
   have hag:∀ j,listed.getD j false=true -> Ss ν' j=Ss ν j:=fun j hl=>hS ν' ν j fun q hq=>(hνj q (fU rfl inv.closed ops.size j q (fun o' ho'=>inv.closed j o' ho' hl) hq)).symm
   have hSi:Ss ν' i=Ss ν i:=hS ν' ν i fun q hq=>(hνj q (hdep q hq)).symm
   have hsame:=lA ht hsel hn hS inv.closed htold htold' hwit hνj
   have hval:(Ss ν i).val u=u:=by
    generalize Ss ν i=s at hs hnp
    cases s with
    | plain=>exact absurd rfl hnp
    | const c=>exact hs.symm
    | holds S=>rfl
   have hvi:vals' i=u:=by
    obtain ⟨b',hfb',hstep'⟩:=htold'.step i o ho hin
    unfold jP at hstep'
    rw [hSi] at hstep'
    rcases hstep' with ⟨_,hp',_⟩ | ⟨_,_,hv',_⟩ | ⟨_,hp',_⟩
    ·exact absurd hp' hnp
    ·rw [hv',hνi,hval]
    exact absurd hp' hnp
   have hfr' : Fr ops n a0 vals' (fun j=>listed.getD j false=true) a:=hfr.congr (fun j hj hl=>hsame j hj hl) (fun _ _=>Iff.rfl)
   have hEb2:∀ b,b < w0.heap.size -> ¬ Eats hr (Ss ν) ν i b:=fun b hb hE=>by have:=hEb b hE;omega
   have hbel:Below w0.heap.size w w':=hg.below hsz (fun k _ hk=>hEb k hk)
   rw [<-hvi]
   refine ih _ _ _ ν' vals' hinv' hcnt' htold' (hb.trans hbel) (fun j hl=>by
    by_cases e:j=i
    ·subst e
     exact ⟨w,hb,hfacts.congr fun q hq=>⟨hag q (hdep q hq.1),(hνj q (hdep q hq.1)).symm⟩⟩
    have hl':=((hset j).1 hl).resolve_left e
    obtain ⟨wj,h1,h2⟩:=hwit j hl'
    have hd2:∀ q,depB ops ops.size j q=true -> listed.getD q false=true:=fun q hq=>fU rfl inv.closed ops.size j q (fun o' ho'=>inv.closed j o' ho' hl') hq
    exact ⟨wj,h1,h2.congr fun q hq=>⟨hag q (hd2 q hq.1),(hνj q (hd2 q hq.1)).symm⟩⟩) ?_ ((hfr'.put ht ho hin).congr (fun _ _ _=>rfl) (fun j _=>(hset j).symm))
   refine hf.step (i:=i) hlive' (fun j hj hne=>⟨hag j (hlive' j hj hne).1,(hνj j (hlive' j hj hne).1).symm⟩) hg hEb hEoff (hfirm ν) hsz ?_ ?_
   ·rw [hSi,hνi]
    generalize Ss ν i=s at hs ⊢
    cases s with
    | holds S=>exact hs
    | _=>trivial
   ·rw [hSi,hνi]
    intro b hb
    refine hφ b ?_
    generalize Ss ν i=s at hb ⊢
    cases s with
    | holds S=>exact hb
    | _=>exact hb.elim
  unfold wpOp
  simp only [ho]
  rw [ew]
  rcases hstep with ⟨hw,hp,hy⟩ | ⟨hw,hnp,hv,hc⟩ | ⟨hw,hp,hv⟩
  ·rw [if_pos hw]
   left
   obtain ⟨w',hr',hg⟩:=hy w hb hfacts
   unfold Oper.wp
   rw [ex]
   rcases hr' with hr' | ⟨hr',hv⟩
   ·rw [hr'];exact next w' hg hp
   rw [hr',Oper.upon_skip, <-hv];exact next w' hg hp
  ·rw [if_pos hw]
   left
   rcases hc w hb hfacts with ⟨u,w',hr',hs⟩ | ⟨f,args,hr',hcall⟩
   ·unfold Oper.wp
    rcases hr' with hr' | ⟨hr',hu⟩
    ·rw [ex,hr',Oper.upon_value]
     exact fresh u w' hnp hs
    rw [ex,hr',Oper.upon_skip, <-hu]
    exact fresh u w' hnp hs
   unfold Oper.wp
   rw [ex,hr',Oper.upon_enter]
   refine hcall.mono fun e w' ⟨u,he,hs⟩ => ?_
   subst he
   exact fresh u w' hnp hs
  rw [hw]
  simp only [bL,if_false]
  rw [<-hv]
  exact next w (Below.refl _ _) hp
theorem wp_region_grow {id:Nat} {Q:Exit -> Act -> World -> Prop} {a:Act} {w:World} {l:List Oper} (n:Nat) (hr:Nat -> Option Nat) (Ss:Gh -> Nat -> Known) (hm:P.follows .mixedOrders=true) (hB:jJ l.toArray n=true) (hfirm:∀ ν j,firm w.heap.size (Ss ν j)) (hS:∀ ν ν' k,(∀ q,depB l.toArray l.toArray.size k q=true -> ν q = ν' q) -> Ss ν k=Ss ν' k) (hH:∀ j k,hr j=some k -> depB l.toArray l.toArray.size k j=true/\k < n)
  (h:∀ ν,Grow hr P l.toArray w Ss ν (wpList P l.toArray Q (l.drop n)) (l.take n) 0 a):(Code.region id l.toArray true).wp P Q a w:=by
 have hB':=hB
 simp only [jJ,aN,bQ,decide_eq_true_eq,beq_iff_eq] at hB
 obtain ⟨⟨⟨⟨⟨hsel,hn⟩,hed⟩,ht⟩,hsc⟩,hseq⟩:=hB
 have hn' : n <= l.length:=by simpa using hn
 have hall:∀ ν, ∃ vals,Told hr P l.toArray n w Ss (wpList P l.toArray Q (l.drop n)) a ν vals:=fun ν =>
  oF ht (fun j hj=>by
   have hj' : j < n:=by simp at hj;omega
   simp [hj']) (by simp;omega) (h ν)
 obtain ⟨vals,htold⟩:=hall fun _=>(undef,Foot.none)
 refine wp_region_any hm ?_
 have inv0:HeadInv .any l.toArray n (Array.replicate l.toArray.size false) :=
  ⟨by simp,fun j oj _ hl=>(by rw [getD_replicate_false] at hl;cases hl),fun t _ ht=>getD_in (by simpa using ht) (getD_replicate_false _ _)⟩
 have hc:∀ m,m <= l.toArray.size -> cnt (Array.replicate l.toArray.size false) m=m:=by
  intro m
  induction m with
  | zero=>intro _;rfl
  | succ m ih =>
   intro hm
   have:(Array.replicate l.toArray.size false).getD m true=false:=getD_in (by simp at hm ⊢;omega) (getD_replicate_false _ _)
   simp only [cnt]
   rw [ih (by omega),this]
   simp
 have:=mN (P:=P) (Q:=Q) (tail:=l.drop n) hB' hfirm hS hH (fun j=>by simp [cH]) hall n (Array.replicate l.toArray.size false) a w.drew _ vals inv0 (hc n hn) htold
  (Below.refl w.heap.size w).drew (fun j hl=>by rw [getD_replicate_false] at hl;cases hl)
  ⟨fun j hj=>absurd hj.1 (by rw [getD_replicate_false];exact Bool.false_ne_true),fun j b hj=>absurd hj.1 (by rw [getD_replicate_false];exact Bool.false_ne_true),fun j b hj=>absurd hj.1 (by rw [getD_replicate_false];exact Bool.false_ne_true),fun i j hj=>absurd hj.1 (by rw [getD_replicate_false];exact Bool.false_ne_true)⟩ (Fr.start fun j _ hl=>by rw [getD_replicate_false] at hl;cases hl)
 rw [show n+(l.toArray.size - n)=l.toArray.size by omega] at this
 exact this
end
end Seven
open Go.RowKit
theorem gG.later {W W' : World} {v:Value} {f:FuncD} (h:gG W v f) (hb:Below W.heap.size W W'):gG W' v f:=h.below hb
theorem gG.alloc {W:World} {v:Value} {f:FuncD} (h:gG W v f) (o:Obj):gG (W.alloc o) v f:=h.below ((Below.refl _ _).alloc (aF _) o)
theorem wM {f:FuncD} {b:Int} (h:fM f b 0):fM f 0 0:=by
 have h0:=h
 unfold fM at h
 rcases h with ⟨c, -, -, -, -,h⟩ | ⟨h1,⟨c,x, -, -, -, -,h⟩ | ⟨h2,⟨i,u, -, -, -, -,h⟩ | ⟨h3,rfl, -⟩⟩⟩
 ·cases h
 ·cases h
 ·cases h
 exact h0
def SErr (f:FuncD) (k:Int):Prop:=(eL f ≠ 0/\k=eL f) \/ (eL f=0 /\ ∃ b,fM f b k)
theorem SErr.one {f:FuncD} {k k' : Int} (h:SErr f k) (h' : SErr f k'):k=k':=by
 rcases h with ⟨h1,rfl⟩ | ⟨h1,b,h2⟩
 ·rcases h' with ⟨_,rfl⟩ | ⟨h3,_⟩
  ·rfl
  exact absurd h3 h1
 rcases h' with ⟨h3,_⟩ | ⟨_,b',h4⟩
 ·exact absurd h1 h3
 exact (sT h2 h4).2
theorem SErr.of_check {f:FuncD} {b k:Int} (h1:eL f ≠ 0 -> b=0/\k=eL f) (h2:eL f=0 -> fM f b k):SErr f k:=by
 by_cases h:eL f=0
 ·exact .inr ⟨h,b,h2 h⟩
 exact .inl ⟨h,(h1 h).2⟩
theorem SErr.zero {f:FuncD} (h:SErr f 0):eL f=0/\fM f 0 0:=by
 rcases h with ⟨h1,h2⟩ | ⟨h1,b,h2⟩
 ·exact absurd h2.symm h1
 exact ⟨h1,wM h2⟩
end
section
open Go.RowKit
def IsR (f:FuncD) (w:World) (e:Ending) (w' : World):Prop := ∃ k:Bool,e = .returned (.bool k)/\(k=true ↔ eL f=0/\fM f 0 0)/\Below w.heap.size w w'
set_option maxHeartbeats 6400000 in
theorem aH0 {w:World} {v:Value} {f:FuncD} (hv:gG w v f):Calls Tryz.prog 26 #[v] w (IsR f w):=by
 have HV:=h! hv
 obtain ⟨ap,cp,ab,cb,rfl, -, -, -, -⟩:=hv.form
 clear hv
 go_enter Tryz.func26,Tryz.ntmps26
 go_upto_region 1 with (fail)
 have hA_:=(Below.refl w.heap.size w).alloc (aF _) (.cells #[.slice ap f.params.length cp,.int .i64 f.arrays,.int .i64 f.cells,.slice ab f.blocks.length cb] 25)
 have HW:=h! hA_
 clear hA_
 have B1:=h! (Box.new w #[.slice ap f.params.length cp,.int .i64 f.arrays,.int .i64 f.cells,.slice ab f.blocks.length cb] 25)
 generalize w.alloc (.cells #[.slice ap f.params.length cp,.int .i64 f.arrays,.int .i64 f.cells,.slice ab f.blocks.length cb] 25)=wv at *
 obtain ⟨lB1,cB1,fB1⟩:=B1.out
 go_wp2_with fail
 refine (zQ (HV.out.below HW.out)).mono ?_
 rintro e w2 ⟨b,g,rfl,h1,h2,hb⟩
 have HS:=h! (SErr.of_check h1 h2)
 clear h1 h2
 clear lB1 cB1 fB1
 replace B1:=h! (B1.out.later hb)
 replace HW:=h! (HW.out.trans (hb.mono HW.out.size))
 clear hb
 obtain ⟨lB1,cB1,fB1⟩:=B1.out
 by_cases hg:g=0
 ·have HG:Hid (eL f=0/\fM f 0 0):=h! (by have h9:=HS.out;rw [hg] at h9;exact h9.zero)
  have hq:(g == 0)=true:=by simpa using hg
  clear hg
  go_wp2
  go_ret
  exact ⟨true,rfl,⟨fun _=>HG.out,fun _=>rfl⟩,HW.out⟩
 have HG:Hid (¬ (eL f=0/\fM f 0 0)):=h! (fun h=>hg (HS.out.one (.inr ⟨h.1,0,h.2⟩)))
 have hq:(g == 0)=false:=by simpa using hg
 clear hg
 go_wp2
 go_ret
 exact ⟨false,rfl,⟨fun h=>absurd h (by simp),fun h=>absurd h HG.out⟩,HW.out⟩
end
end Go.Proofs.YtcmflfkpeodicaaGreat
