/- Part 34. -/
import Derived.Test.YtagabiidbbhhmaaGreatEC20
import Derived.Test.YtagabiidbbhhmaaGreatEC4
namespace Go.Proofs.YtagabiidbbhhmaaGreat
set_option linter.all false
open Go Go.RowKit
namespace Six
section
variable {P:Program} {ops:Array Oper} {φ m0:Nat} {A0 A' : Array Value}
def iX (ops:Array Oper) (Ss:Nat -> Known) (ν : Nat -> Value) (φ m0 k:Nat) (w:World):Prop := ∀ j,depB ops ops.size k j=true -> (j=m0 -> k = φ) -> (Ss j).fact (ν j) w
def Full (w0:World) (A' : Array Value) (u:Value) (w:World):Prop := ∃ b,u = .pointer (some ⟨b,0,none⟩)/\w0.heap.size <= b/\Box w b A'
def Grow (φ m0:Nat) (A0 A' : Array Value) (P:Program) (ops:Array Oper) (w0:World) (Ss:Nat -> Known) (ν : Nat -> Value) (L:Act -> World -> Prop):List Oper -> Nat -> Act -> Prop
 | [],k,a => ∀ w',Below w0.heap.size w0 w' -> (∀ j,j < k -> j ≠ m0 -> (Ss j).fact (ν j) w') -> Full w0 A' (ν m0) w' -> lT Ss ν k -> L a w'
 | o :: rest,k,a =>
  if Region.wanted o (yielded ops a.tmps) then
   (k ≠ φ /\ Ss k = .plain /\ ∃ v,(∀ w',Below w0.heap.size w0 w' -> iX ops Ss ν φ m0 k w' -> Oper.yields P o a w' v)/\Grow φ m0 A0 A' P ops w0 Ss ν L rest (k+1) (a.put o.dst v)) \/
   (k ≠ φ /\ (∀ w',Below w0.heap.size w0 w' -> iX ops Ss ν φ m0 k w' -> Oper.callsTo P o a w' (Ss k).spec)/\Grow φ m0 A0 A' P ops w0 Ss ν L rest (k+1) (a.put o.dst ((Ss k).val (ν k)))) \/
   (k ≠ φ /\ ∃ mk A,Ss k = .made w0.heap.size mk A/\(∀ w',Below w0.heap.size w0 w' -> iX ops Ss ν φ m0 k w' -> Oper.makes P o a w' mk A)/\Grow φ m0 A0 A' P ops w0 Ss ν L rest (k+1) (a.put o.dst ((Ss k).val (ν k)))) \/
   (k = φ /\ Ss k = .plain/\(∀ w' b,Below w0.heap.size w0 w' -> iX ops Ss ν φ m0 k w' -> ν m0 = .pointer (some ⟨b,0,none⟩) -> w0.heap.size <= b -> Box w' b A0 -> ∃ w'',(execOp a.eval o).run P w' = .ok .skip w'' /\ Turn [b] w' w'' /\ Box w'' b A')/\Grow φ m0 A0 A' P ops w0 Ss ν L rest (k+1) (a.put o.dst undef))
  else k ≠ φ /\ Ss k = .plain/\Grow φ m0 A0 A' P ops w0 Ss ν L rest (k+1) (a.put o.dst undef)
theorem Grow.val {w0:World} {Ss:Nat -> Known} {ν : Nat -> Value} {L:Act -> World -> Prop} {o:Oper} {rest:List Oper} {k:Nat} {a:Act} {v:Value} (hne:k ≠ φ) (hg:Region.wanted o (yielded ops a.tmps)=true) (hk:Ss k = .plain)
  (hy:∀ w',Below w0.heap.size w0 w' -> iX ops Ss ν φ m0 k w' -> (execOp a.eval o).run P w' = .ok (.value v) w') (h:Grow φ m0 A0 A' P ops w0 Ss ν L rest (k+1) (a.put o.dst v)):Grow φ m0 A0 A' P ops w0 Ss ν L (o :: rest) k a:=by
 simp only [Grow,hg,if_true]
 exact .inl ⟨hne,hk,v,fun w' h1 h2=>⟨w',.inl (hy w' h1 h2),Below.refl _ _⟩,h⟩
theorem Grow.call {w0:World} {Ss:Nat -> Known} {ν : Nat -> Value} {L:Act -> World -> Prop} {o:Oper} {rest:List Oper} {k:Nat} {a:Act} {f:FuncId} {args:Array Value} (hne:k ≠ φ) (hg:Region.wanted o (yielded ops a.tmps)=true)
  (hrun:∀ w' : World,(execOp a.eval o).run P w' = .ok (.enter f args) w')
  (hy:∀ w',Below w0.heap.size w0 w' -> iX ops Ss ν φ m0 k w' -> Calls P f args w' fun e w'' => ∃ u,e = .returned u/\(Ss k).spec u w'' /\ Below w'.heap.size w' w'')
  (h:Grow φ m0 A0 A' P ops w0 Ss ν L rest (k+1) (a.put o.dst ((Ss k).val (ν k)))):Grow φ m0 A0 A' P ops w0 Ss ν L (o :: rest) k a:=by
 simp only [Grow,hg,if_true]
 exact .inr (.inl ⟨hne,fun w' h1 h2=>⟨f,args,hrun w',hy w' h1 h2⟩,h⟩)
theorem Grow.made {w0:World} {Ss:Nat -> Known} {ν : Nat -> Value} {L:Act -> World -> Prop} {o:Oper} {rest:List Oper} {k:Nat} {a:Act} {mk:Nat -> Value} {A:Array Value} {T:TypeId} (hne:k ≠ φ) (hg:Region.wanted o (yielded ops a.tmps)=true) (hk:Ss k = .made w0.heap.size mk A)
  (hy:∀ w',Below w0.heap.size w0 w' -> iX ops Ss ν φ m0 k w' -> (execOp a.eval o).run P w' = .ok (.value (mk w'.heap.size)) (w'.alloc (.cells A T))) (h:Grow φ m0 A0 A' P ops w0 Ss ν L rest (k+1) (a.put o.dst ((Ss k).val (ν k)))):Grow φ m0 A0 A' P ops w0 Ss ν L (o :: rest) k a:=by
 simp only [Grow,hg,if_true]
 exact .inr (.inr (.inl ⟨hne,mk,A,hk,fun w' h1 h2=>⟨T,hy w' h1 h2⟩,h⟩))
theorem Grow.fill {w0:World} {Ss:Nat -> Known} {ν : Nat -> Value} {L:Act -> World -> Prop} {o:Oper} {rest:List Oper} {k:Nat} {a:Act} (he:k = φ) (hg:Region.wanted o (yielded ops a.tmps)=true) (hk:Ss k = .plain)
  (hy:∀ w' b,Below w0.heap.size w0 w' -> iX ops Ss ν φ m0 k w' -> ν m0 = .pointer (some ⟨b,0,none⟩) -> w0.heap.size <= b -> Box w' b A0 -> ∃ w'',(execOp a.eval o).run P w' = .ok .skip w'' /\ Turn [b] w' w'' /\ Box w'' b A')
  (h:Grow φ m0 A0 A' P ops w0 Ss ν L rest (k+1) (a.put o.dst undef)):Grow φ m0 A0 A' P ops w0 Ss ν L (o :: rest) k a:=by
 simp only [Grow,hg,if_true]
 exact .inr (.inr (.inr ⟨he,hk,hy,h⟩))
theorem Grow.skip {w0:World} {Ss:Nat -> Known} {ν : Nat -> Value} {L:Act -> World -> Prop} {o:Oper} {rest:List Oper} {k:Nat} {a:Act} (hne:k ≠ φ) (hg:Region.wanted o (yielded ops a.tmps)=false) (hk:Ss k = .plain)
  (h:Grow φ m0 A0 A' P ops w0 Ss ν L rest (k+1) (a.put o.dst undef)):Grow φ m0 A0 A' P ops w0 Ss ν L (o :: rest) k a:=by
 simp only [Grow,hg,bG,if_false]
 exact ⟨hne,hk,h⟩
def iG (φ m0:Nat) (A0 A' : Array Value) (P:Program) (ops:Array Oper) (w0:World) (Ss:Nat -> Known) (ν : Nat -> Value) (o:Oper) (k:Nat) (a:Act) (v:Value):Prop :=
 (Region.wanted o (yielded ops a.tmps)=true/\k ≠ φ /\ Ss k = .plain /\ ∀ w',Below w0.heap.size w0 w' -> iX ops Ss ν φ m0 k w' -> Oper.yields P o a w' v) \/
 (Region.wanted o (yielded ops a.tmps)=true/\k ≠ φ /\ v=(Ss k).val (ν k)/\((∀ w',Below w0.heap.size w0 w' -> iX ops Ss ν φ m0 k w' -> Oper.callsTo P o a w' (Ss k).spec) \/
  ∃ mk A,Ss k = .made w0.heap.size mk A /\ ∀ w',Below w0.heap.size w0 w' -> iX ops Ss ν φ m0 k w' -> Oper.makes P o a w' mk A)) \/
 (Region.wanted o (yielded ops a.tmps)=false/\k ≠ φ /\ Ss k = .plain/\v=undef) \/
 (Region.wanted o (yielded ops a.tmps)=true/\k = φ /\ Ss k = .plain/\v=undef /\ ∀ w' b,Below w0.heap.size w0 w' -> iX ops Ss ν φ m0 k w' -> ν m0 = .pointer (some ⟨b,0,none⟩) -> w0.heap.size <= b -> Box w' b A0 -> ∃ w'',(execOp a.eval o).run P w' = .ok .skip w'' /\ Turn [b] w' w'' /\ Box w'' b A')
structure Told (φ m0:Nat) (A0 A' : Array Value) (P:Program) (ops:Array Oper) (n:Nat) (w0:World) (Ss:Nat -> Known) (L:Act -> World -> Prop) (a0:Act) (ν vals:Nat -> Value):Prop where
 step:∀ k o,ops[k]? = some o -> k < n -> ∃ b,Fr ops n a0 vals (· < k) b/\iG φ m0 A0 A' P ops w0 Ss ν o k b (vals k)
 done:∃ b,Fr ops n a0 vals (· < n) b /\ ∀ w',Below w0.heap.size w0 w' -> (∀ j,j < n -> j ≠ m0 -> (Ss j).fact (ν j) w') -> Full w0 A' (ν m0) w' -> lT Ss ν n -> L b w'
theorem gK {n:Nat} {w0:World} {Ss:Nat -> Known} {L:Act -> World -> Prop} {a0:Act} {ν : Nat -> Value} (ht:jR ops n=true) :
  ∀ (l:List Oper) (k:Nat) (a:Act) (v0:Nat -> Value),(∀ j,j < l.length -> ops[k+j]? = l[j]?) -> k+l.length=n -> Fr ops n a0 v0 (· < k) a -> Grow φ m0 A0 A' P ops w0 Ss ν L l k a ->
   ∃ vals:Nat -> Value,(∀ j,j < k -> vals j=v0 j)/\(∀ j o,ops[j]? = some o -> k <= j -> j < n -> ∃ b,Fr ops n a0 vals (· < j) b/\iG φ m0 A0 A' P ops w0 Ss ν o j b (vals j)) /\
    ∃ b,Fr ops n a0 vals (· < n) b /\ ∀ w',Below w0.heap.size w0 w' -> (∀ j,j < n -> j ≠ m0 -> (Ss j).fact (ν j) w') -> Full w0 A' (ν m0) w' -> lT Ss ν n -> L b w'
 | [],k,a,v0,_,hk,hf,h=>by
  have hk' : k=n:=by simpa using hk
  subst hk'
  exact ⟨v0,fun _ _=>rfl,fun j o _ h1 h2=>by omega,a,hf,h⟩
 | o :: rest,k,a,v0,hl,hk,hf,h=>by
  simp only [bD] at hk
  have ho:ops[k]? = some o:=by simpa using hl 0 (by simp)
  have hl' : ∀ j,j < rest.length -> ops[k+1+j]? = rest[j]?:=fun j hj=>by
   have:=hl (j+1) (by simp;omega)
   simpa [Nat.add_assoc,Nat.add_comm 1 j] using this
  have key:∃ v,iG φ m0 A0 A' P ops w0 Ss ν o k a v/\Grow φ m0 A0 A' P ops w0 Ss ν L rest (k+1) (a.put o.dst v):=by
   simp only [Grow] at h
   by_cases hw:Region.wanted o (yielded ops a.tmps)=true
   ·simp only [hw,if_true] at h
    rcases h with ⟨h0,h1,v,h2,h3⟩ | ⟨h0,h2,h3⟩ | ⟨h0,mk,A,h1,h2,h3⟩ | ⟨h0,h1,h2,h3⟩
    ·exact ⟨v,.inl ⟨hw,h0,h1,h2⟩,h3⟩
    ·exact ⟨_,.inr (.inl ⟨hw,h0,rfl,.inl h2⟩),h3⟩
    ·exact ⟨_,.inr (.inl ⟨hw,h0,rfl,.inr ⟨mk,A,h1,h2⟩⟩),h3⟩
    exact ⟨undef,.inr (.inr (.inr ⟨hw,h0,h1,rfl,h2⟩)),h3⟩
   simp only [dO] at hw
   simp only [hw,bG,if_false] at h
   exact ⟨undef,.inr (.inr (.inl ⟨hw,h.1,h.2.1,rfl⟩)),h.2.2⟩
  obtain ⟨v,hs,hg⟩:=key
  let v1:Nat -> Value:=fun j=>if j=k then v else v0 j
  have e1:∀ j,j < k -> v1 j=v0 j:=fun j hj=>by simp only [v1];rw [if_neg (by omega)]
  have ek:v1 k=v:=by simp [v1]
  have hf1:Fr ops n a0 v1 (· < k) a:=hf.congr (fun j _ hj=>(e1 j hj).symm) (fun _ _=>Iff.rfl)
  have hf2:=hf1.put ht ho (by omega)
  rw [ek] at hf2
  have hf3:Fr ops n a0 v1 (· < k+1) (a.put o.dst v):=hf2.congr (fun _ _ _=>rfl) (fun j _=>by omega)
  obtain ⟨vals,hv,hst,hd⟩:=gK ht rest (k+1) _ v1 hl' (by omega) hf3 hg
  refine ⟨vals,fun j hj=>(hv j (by omega)).trans (e1 j hj),fun j oj hj hkj hjn => ?_,hd⟩
  by_cases hjk:j=k
  ·subst hjk
   rw [ho] at hj
   cases hj
   refine ⟨a,hf1.congr (fun i _ hi=>(hv i (by omega)).symm) (fun _ _=>Iff.rfl), ?_⟩
   rw [hv j (by omega),ek]
   exact hs
  exact hst j oj hj (by omega) hjn
theorem kI {n:Nat} {w0:World} {Ss:Nat -> Known} {L:Act -> World -> Prop} {a0:Act} {ν : Nat -> Value} {l:List Oper} (ht:jR ops n=true) (hl:∀ j,j < l.length -> ops[j]? = l[j]?) (hn:l.length=n)
  (h:Grow φ m0 A0 A' P ops w0 Ss ν L l 0 a0):∃ vals,Told φ m0 A0 A' P ops n w0 Ss L a0 ν vals:=by
 obtain ⟨vals,_,h1,h2⟩:=gK ht l 0 a0 (fun _=>undef) (fun j hj=>by rw [bE];exact hl j hj) (by omega) (Fr.start fun j _ hj=>by omega) h
 exact ⟨vals,fun k o hk hkn=>h1 k o hk (by omega) hkn,h2⟩
theorem iQ {n:Nat} {w0:World} {Ss:Nat -> Known} {L L' : Act -> World -> Prop} {a0:Act} {ν ν' vals vals' : Nat -> Value} {listed:Array Bool} (ht:jR ops n=true) (hsel:Region.noSelect ops=true) (hn:n <= ops.size)
  (hc:∀ j oj,ops[j]? = some oj -> listed.getD j false=true -> ∀ e ∈ oj.after,Region.binds .any e=true -> listed.getD e.on false=true)
  (h:Told φ m0 A0 A' P ops n w0 Ss L a0 ν vals) (h' : Told φ m0 A0 A' P ops n w0 Ss L' a0 ν' vals') (hw:∀ j,listed.getD j false=true -> ∃ wj,Below w0.heap.size w0 wj/\iX ops Ss ν φ m0 j wj)
  (hν : ∀ j,listed.getD j false=true -> ν j = ν' j):∀ (j:Nat),j < n -> listed.getD j false=true -> vals j=vals' j:=by
 intro j
 induction j using Nat.strongRecOn with
 | _ j ih =>
  intro hjn hlj
  cases ho:ops[j]? with
  | none =>
   have:=(bS.1 ho)
   omega
  | some o =>
   obtain ⟨b,hb1,hs⟩:=h.step j o ho hjn
   obtain ⟨b',hb2,hs'⟩:=h'.step j o ho hjn
   have hin:∀ i,i < n -> hZ ops j i=true -> i < j -> i < j/\i < j/\vals i=vals' i:=fun i hi he hij=>by
    obtain ⟨oj,hoj,e,hem,hbi,hon⟩:=fN he
    refine ⟨hij,hij,ih i hij hi ?_⟩
    rw [<-hon]
    exact hc j oj hoj hlj e hem hbi
   obtain ⟨ex,ew⟩:=gX (ops:=ops) (o:=o) (fun cs b=>Region.noSelect_spec hsel j o cs b ho) (fun d hd=>Fr.same ht hb1 hb2 ho hjn hin d hd)
   have hdep:∀ i,depB ops ops.size j i=true -> listed.getD i false=true:=fun i hi =>
    fR rfl hc ops.size j i (fun o' ho'=>hc j o' ho' hlj) hi
   obtain ⟨w',hb,F1⟩:=hw j hlj
   have F2:iX ops Ss ν' φ m0 j w':=fun i hi hm=>by rw [<-hν i (hdep i hi)];exact F1 i hi hm
   rcases hs with ⟨w1,n1,p1,y1⟩ | ⟨w1,n1,e1,y1⟩ | ⟨w1,n1,p1,e1⟩ | ⟨w1,n1,p1,e1,y1⟩ <;> rcases hs' with ⟨w2,n2,p2,y2⟩ | ⟨w2,n2,e2,y2⟩ | ⟨w2,n2,p2,e2⟩ | ⟨w2,n2,p2,e2,y2⟩
   ·obtain ⟨x,r1,_⟩:=y1 w' hb F1
    obtain ⟨y,r2,_⟩:=y2 w' hb F2
    rw [<-ex] at r2
    rcases r1 with r1 | ⟨r1,q1⟩ <;> rcases r2 with r2 | ⟨r2,q2⟩ <;> rw [r1] at r2 <;> simp_all
   ·obtain ⟨x,r1,_⟩:=y1 w' hb F1
    rcases y2 with y2 | ⟨mk,A,hk,_⟩
    ·obtain ⟨f,args,r2,_⟩:=y2 w' hb F2
     rw [<-ex] at r2
     rcases r1 with r1 | ⟨r1,q1⟩ <;> rw [r1] at r2 <;> simp_all
    rw [p1] at hk;cases hk
   ·rw [ew,w2] at w1;cases w1
   ·exact absurd n2 n1
   ·obtain ⟨y,r2,_⟩:=y2 w' hb F2
    rcases y1 with y1 | ⟨mk,A,hk,_⟩
    ·obtain ⟨f,args,r1,_⟩:=y1 w' hb F1
     rw [<-ex] at r2
     rcases r2 with r2 | ⟨r2,q2⟩ <;> rw [r1] at r2 <;> simp_all
    rw [p2] at hk;cases hk
   ·rw [e1,e2,hν j hlj]
   ·rw [ew,w2] at w1;cases w1
   ·exact absurd n2 n1
   ·rw [ew,w2] at w1;cases w1
   ·rw [ew,w2] at w1;cases w1
   ·rw [e1,e2]
   ·exact absurd n2 n1
   ·exact absurd n1 n2
   ·exact absurd n1 n2
   ·exact absurd n1 n2
   rw [e1,e2]
set_option maxHeartbeats 1000000 in
theorem jH {n:Nat} {w0:World} {Ss:Nat -> Known} {Q:Exit -> Act -> World -> Prop} {tail:List Oper} {a0:Act} {mk0:Nat -> Value} (hB:iU ops n=true) (hlast:∀ k,(Ss k).lasts) (hfirm:∀ k S,Ss k = .holds S -> ∀ u w1 w2 b,w0.heap.size <= b -> S u w1 -> Turn [b] w1 w2 -> S u w2)
  (hm0:Ss m0 = .made w0.heap.size mk0 A0) (hφn : φ < n) (hm0n:m0 < n) (hdφ : depB ops ops.size φ m0=true)
  (htail:∀ j,tail[j]? = ops[n+j]?) (hall:∀ ν, ∃ vals,Told φ m0 A0 A' P ops n w0 Ss (wpList P ops Q tail) a0 ν vals) :
  ∀ (m:Nat) (listed:Array Bool) (a:Act) (w:World) (ν vals:Nat -> Value),HeadInv .any ops n listed -> cnt listed n=m -> Told φ m0 A0 A' P ops n w0 Ss (wpList P ops Q tail) a0 ν vals ->
   Below w0.heap.size w0 w -> (∀ j,listed.getD j false=true -> ∃ wj,Below w0.heap.size w0 wj/\iX ops Ss ν φ m0 j wj) -> (∀ j,j < n -> listed.getD j false=true -> (j=m0 -> listed.getD φ false=false) -> (Ss j).fact (ν j) w) -> (listed.getD φ false=true -> Full w0 A' (ν m0) w) ->
   (∀ i j,i ≠ j -> listed.getD i false=true -> listed.getD j false=true -> (Ss i).isMade=true -> (Ss j).isMade=true -> ν i ≠ ν j) -> Fr ops n a0 vals (fun j=>listed.getD j false=true) a -> wpAny P .any ops Q (m+(ops.size - n)) listed a w:=by
 simp only [iU,aJ,bV,decide_eq_true_eq,beq_iff_eq] at hB
 obtain ⟨⟨⟨⟨⟨hsel,hn⟩,hed⟩,ht⟩,hsc⟩,hseq⟩:=hB
 intro m
 induction m with
 | zero =>
  intro listed a w ν vals inv hcnt htold hb hpast hf hfull hap hfr
  have hlen:tail.length=ops.size - n:=by
   apply eA
   ·by_cases hle:tail.length <= ops.size - n
    ·exact hle
    have h1:=htail (ops.size - n)
    rw [aT (by omega)] at h1
    have:=dC.1 h1
    omega
   by_cases hle:ops.size - n <= tail.length
   ·exact hle
   have h1:=htail tail.length
   rw [aQ (aA _)] at h1
   have:=bS.1 h1.symm
   omega
  have hl:∀ j,j < n -> listed.getD j false=true:=fun j hj=>eX (jA n hcnt j hj) (by rw [inv.size];omega)
  have hlist:listed=fE ops.size n:=by
   apply dG
   intro j
   by_cases hj:j < ops.size
   ·have e2:(fE ops.size n)[j]? = some (decide (j < n)):=by simp [fE,hj]
    rw [e2]
    by_cases hjn:j < n
    ·have:=hl j hjn
     rw [bA] at this
     cases hx:listed[j]? with
     | none=>rw [hx] at this;cases this
     | some b=>rw [hx] at this;simp at this;rw [this,decide_eq_true hjn]
    have:=inv.tail j (by omega) hj
    rw [bA] at this
    cases hx:listed[j]? with
    | none=>rw [hx] at this;cases this
    | some b=>rw [hx] at this;simp at this;rw [this,decide_eq_false hjn]
   rw [aT (by rw [inv.size];omega),aT (by simp [fE];omega)]
  obtain ⟨b,hb1,hb2⟩:=htold.done
  have hab:a=b:=hfr.eq hb1 fun j hj=>⟨fun _=>hj,fun _=>hl j hj⟩
  subst hab
  have:=wpAny_of_seq (md:=.any) (Q':=Q) tail n listed a w htail (by rw [hlist,hlen];exact hseq) (hb2 w hb (fun j hj hne=>hf j hj (hl j hj) (fun e=>absurd e hne)) (hfull (hl φ hφn)) (fun i j hi hj hne h1 h2=>hap i j hne (hl i hi) (hl j hj) h1 h2))
  rw [hlen] at this
  rw [bE]
  exact this
 | succ m ih =>
  intro listed a w ν vals inv hcnt htold hb hpast hf hfull hap hfr
  rw [show m+1+(ops.size - n)=(m+(ops.size - n))+1 by omega]
  obtain ⟨k0,hk0,hu0,hless⟩:=jB (listed:=listed) n (by omega)
  have hready0:k0 ∈ Region.ready .any ops listed:=by
   refine mem_ready.2 ⟨hu0,ops[k0],aU (by omega),fun e he hbi => ?_⟩
   have:=iA hed hk0 (aU (by omega)) he hbi
   exact eX (hless _ this) (by rw [inv.size];omega)
  refine ⟨fun h0=>(by rw [h0] at hready0;cases hready0),fun i hi => ?_⟩
  have hin:i < n:=by
   rcases cK i n with h | h
   ·exact h
   rcases hsc with h1 | h1
   ·obtain ⟨_,o,ho,_⟩:=mem_ready.1 hi
    have:=(aL.1 ho).1
    omega
   by_cases hns:n < ops.size
   ·exact absurd hi (tail_waits h1.1 h1.2 hns inv _ k0 rfl hk0 hu0 i h)
   obtain ⟨_,o,ho,_⟩:=mem_ready.1 hi
   have:=(aL.1 ho).1
   omega
  obtain ⟨hun,o,ho,hedge⟩:=mem_ready.1 hi
  have hinv':=inv.set hi hin
  have hcnt' : cnt (listed.setIfInBounds i true) n=m:=by
   have:=(kX (by rw [inv.size];omega) hun n).2 hin
   omega
  have hset:∀ j,(listed.setIfInBounds i true).getD j false=true ↔ (j=i \/ listed.getD j false=true):=fun j=>by
   by_cases e:i=j
   ·subst e
    have:i < listed.size:=by rw [inv.size];omega
    simp [this]
   rw [getD_set_ne false e]
   exact ⟨fun h=>.inr h,fun h=>h.resolve_left (fun e'=>e e'.symm)⟩
  obtain ⟨b,hfb,hstep⟩:=htold.step i o ho hin
  have hlook:∀ d,d ∈ o.looksAt ops -> a.tmps[d]? = b.tmps[d]?:=fun d hd=>Fr.same ht hfr hfb ho hin (fun j hj he hji=>by
   obtain ⟨oj,hoj,e,hem,hbi,hon⟩:=fN he
   rw [ho] at hoj
   cases hoj
   exact ⟨by rw [<-hon];exact hedge e hem hbi,hji,rfl⟩) d hd
  obtain ⟨ex,ew⟩:=gX (ops:=ops) (o:=o) (fun cs b=>Region.noSelect_spec hsel i o cs b ho) hlook
  have hdep:∀ j,depB ops ops.size i j=true -> listed.getD j false=true:=fun j hj =>
   fR rfl inv.closed ops.size i j (fun o' ho'=>by rw [ho] at ho';cases ho';exact hedge) hj
  have hsmall:∀ j,listed.getD j false=true -> j < n:=fun j hj=>by
   rcases cK j n with h | h
   ·exact h
   rcases cK j ops.size with h2 | h2
   ·have:=getD_both (inv.tail j h h2)
    rw [this] at hj;cases hj
   rw [bA,aT (by rw [inv.size];omega)] at hj
   cases hj
  have hfacts:iX ops Ss ν φ m0 i w:=fun j hj hm=>hf j (hsmall j (hdep j hj)) (hdep j hj) (fun e=>by rw [<-hm e];exact getD_both hun)
  have hsz:w0.heap.size <= w.heap.size:=hb.size
  have hpast' : ∀ j,(listed.setIfInBounds i true).getD j false=true -> ∃ wj,Below w0.heap.size w0 wj/\iX ops Ss ν φ m0 j wj:=fun j hj=>by
   rcases (hset j).1 hj with rfl | hj
   ·exact ⟨w,hb,hfacts⟩
   exact hpast j hj
  -- φ is listed behind iff it was or is i
  have hφset:i ≠ φ -> (listed.setIfInBounds i true).getD φ false=listed.getD φ false:=fun hne=>getD_set_ne false hne
  have later:∀ (w' : World),Below w.heap.size w w' -> ∀ j,listed.getD j false=true -> (j=m0 -> listed.getD φ false=false) -> (Ss j).fact (ν j) w':=fun w' hg j hl hm=>by
   have h1:=hf j (hsmall j hl) hl hm
   have h2:=hlast j
   generalize Ss j=s at h1 h2 ⊢
   cases s with
   | holds S=>exact h2 _ _ _ h1 hg
   | made B mk A=>obtain ⟨b,e,hB,hx⟩:=h1;exact ⟨b,e,hB,hx.later hg⟩
   | _=>trivial
  have fullL:∀ (w' : World),Below w.heap.size w w' -> listed.getD φ false=true -> Full w0 A' (ν m0) w':=fun w' hg hl=>by
   obtain ⟨b,e,h1,h2⟩:=hfull hl
   exact ⟨b,e,h1,h2.later hg⟩
  -- the frame and the facts behind a step that leaves ν as it was
  have next:∀ (w' : World),i ≠ φ -> Below w.heap.size w w' -> (Ss i).fact (ν i) w' -> (Ss i).isMade=false -> wpAny P .any ops Q (m+(ops.size - n)) (listed.setIfInBounds i true) (a.put o.dst (vals i)) w':=fun w' hiφ hg hfi hnm=>by
   refine ih _ _ _ ν vals hinv' hcnt' htold (Below.more hb hsz hg) hpast' (fun j hj hl hm => ?_) (fun hl=>fullL w' hg (by rwa [hφset hiφ] at hl)) (fun x y hne hx hy hmx hmy => ?_) ((hfr.put ht ho hin).congr (fun _ _ _=>rfl) (fun j _=>(hset j).symm))
   ·rcases (hset j).1 hl with rfl | hl
    ·exact hfi
    exact later w' hg j hl (fun e=>by have:=hm e;rwa [hφset hiφ] at this)
   rcases (hset x).1 hx with rfl | hx
   ·rw [hnm] at hmx;cases hmx
   rcases (hset y).1 hy with rfl | hy
   ·rw [hnm] at hmy;cases hmy
   exact hap x y hne hx hy hmx hmy
  -- the step that fills
  have filled:∀ (w' : World) (b:Nat),i = φ -> ν m0 = .pointer (some ⟨b,0,none⟩) -> w0.heap.size <= b -> Turn [b] w w' -> Box w' b A' -> Ss i = .plain -> wpAny P .any ops Q (m+(ops.size - n)) (listed.setIfInBounds i true) (a.put o.dst (vals i)) w':=fun w' b hiφ hν0 hb0 hg hx hpl=>by
   refine ih _ _ _ ν vals hinv' hcnt' htold (hb.trans (hg.below hsz (fun x hx=>by rw [cR] at hx;subst hx;exact hb0))) hpast' (fun j hj hl hm => ?_) (fun hl=>⟨b,hν0,hb0,hx⟩) (fun x y hne hx hy hmx hmy => ?_) ((hfr.put ht ho hin).congr (fun _ _ _=>rfl) (fun j _=>(hset j).symm))
   ·rcases (hset j).1 hl with rfl | hl
    ·rw [hpl];trivial
    have hjm:j ≠ m0:=fun e=>by
     have h5:=(hset φ).2 (.inl hiφ.symm)
     rw [hm e] at h5
     cases h5
    have h1:=hf j hj hl (fun e=>absurd e hjm)
    have h2:=hfirm j
    have h3:(Ss j).isMade=true -> ν j ≠ ν m0:=fun hmj=>hap j m0 hjm hl (by rw [hiφ] at hdep;exact hdep m0 hdφ) hmj (by rw [hm0];rfl)
    generalize Ss j=s at h1 h2 h3 ⊢
    cases s with
    | holds S=>exact h2 S rfl _ _ _ b hb0 h1 hg
    | made B mk A =>
     obtain ⟨c,e,hB,hxc⟩:=h1
     exact ⟨c,e,hB,hxc.turn hg (fun hm'=>by rw [cR] at hm';subst hm';exact h3 rfl (e.trans hν0.symm))⟩
    | _=>trivial
   rcases (hset x).1 hx with rfl | hx
   ·rw [hpl] at hmx;cases hmx
   rcases (hset y).1 hy with rfl | hy
   ·rw [hpl] at hmy;cases hmy
   exact hap x y hne hx hy hmx hmy
  -- the same where the step gives the operation's own ghost
  have fresh:∀ (u:Value) (w' : World),i ≠ φ -> Below w.heap.size w w' -> (Ss i).fact u w' -> Ss i ≠ .plain -> ((Ss i).isMade=true -> u = .pointer (some ⟨w.heap.size,0,none⟩)) ->
    wpAny P .any ops Q (m+(ops.size - n)) (listed.setIfInBounds i true) (a.put o.dst ((Ss i).val u)) w':=fun u w' hiφ hg hs hnp hmk=>by
   let ν' : Nat -> Value:=fun j=>if j=i then u else ν j
   have hνi : ν' i=u:=by simp [ν']
   have hνj:∀ j,listed.getD j false=true -> ν j = ν' j:=fun j hj=>by
    have hne:j ≠ i:=fun e=>by rw [e,getD_both hun] at hj;cases hj
    simp [ν',hne]
   obtain ⟨vals',htold'⟩:=hall ν'
   have hbw' : Below w0.heap.size w0 w':=Below.more hb hsz hg
   have hsame:=iQ ht hsel hn inv.closed htold htold' hpast hνj
   have hvi:vals' i=(Ss i).val u:=by
    obtain ⟨b',hfb',hstep'⟩:=htold'.step i o ho hin
    rcases hstep' with ⟨_,_,hp',_⟩ | ⟨_,_,hv',_⟩ | ⟨_,_,hp',_⟩ | ⟨_,_,hp',_⟩
    ·exact absurd hp' hnp
    ·rw [hv',hνi]
    ·exact absurd hp' hnp
    exact absurd hp' hnp
   have hfr' : Fr ops n a0 vals' (fun j=>listed.getD j false=true) a:=hfr.congr (fun j hj hl=>hsame j hj hl) (fun _ _=>Iff.rfl)
   have hpre:∀ j,listed.getD j false=true -> ∀ q,depB ops ops.size j q=true -> listed.getD q false=true:=fun j hj q hq =>
    fR rfl inv.closed ops.size j q (fun o' ho'=>inv.closed j o' ho' hj) hq
   have hpast2:∀ j,(listed.setIfInBounds i true).getD j false=true -> ∃ wj,Below w0.heap.size w0 wj/\iX ops Ss ν' φ m0 j wj:=fun j hj=>by
    rcases (hset j).1 hj with rfl | hl
    ·exact ⟨w,hb,fun q hq hm=>by rw [<-hνj q (hdep q hq)];exact hfacts q hq hm⟩
    obtain ⟨wj,k1,k2⟩:=hpast j hl
    exact ⟨wj,k1,fun q hq hm=>by rw [<-hνj q (hpre j hl q hq)];exact k2 q hq hm⟩
   have old:∀ j,listed.getD j false=true -> (Ss j).isMade=true -> (Ss i).isMade=true -> ν j ≠ u:=fun j hl hmj hmi e=>by
    rw [hmk hmi] at e
    have hlt:∀ b, ν j = .pointer (some ⟨b,0,none⟩) -> b < w.heap.size:=fun b hbe=>by
     by_cases hjm:j=m0
     ·by_cases hlφ : listed.getD φ false=true
      ·obtain ⟨c,e2,_,hx⟩:=hfull hlφ
       rw [hjm,e2] at hbe
       cases hbe;exact hx.lt
      have h1:=hf j (hsmall j hl) hl (fun _=>by simpa using hlφ)
      rw [hjm,hm0] at h1
      obtain ⟨c,e2,_,hx⟩:=h1
      rw [hjm,e2] at hbe
      cases hbe;exact hx.lt
     have h1:=hf j (hsmall j hl) hl (fun e=>absurd e hjm)
     generalize Ss j=s at h1 hmj
     cases s with
     | made B mk A =>
      obtain ⟨c,e2,_,hx⟩:=h1
      rw [e2] at hbe
      cases hbe;exact hx.lt
     | _=>cases hmj
    have:=hlt _ e
    omega
   rw [<-hvi]
   refine ih _ _ _ ν' vals' hinv' hcnt' htold' hbw' hpast2 (fun j hj hl hm => ?_) (fun hl => ?_) (fun x y hne hx hy hmx hmy => ?_) ((hfr'.put ht ho hin).congr (fun _ _ _=>rfl) (fun j _=>(hset j).symm))
   ·by_cases e:j=i
    ·subst e;rw [hνi];exact hs
    have hl':=((hset j).1 hl).resolve_left e
    rw [<-hνj j hl']
    exact later w' hg j hl' (fun e=>by have:=hm e;rwa [hφset hiφ] at this)
   ·have hl0:listed.getD φ false=true:=by rwa [hφset hiφ] at hl
    rw [<-hνj m0 (hpre φ hl0 m0 hdφ)]
    exact fullL w' hg hl0
   ·by_cases ex:x=i
    ·subst ex
     have hy':=((hset y).1 hy).resolve_left (fun e=>hne e.symm)
     rw [hνi, <-hνj y hy']
     exact fun e=>old y hy' hmy hmx e.symm
    have hx':=((hset x).1 hx).resolve_left ex
    rw [<-hνj x hx']
    by_cases ey:y=i
    ·subst ey
     rw [hνi]
     exact old x hx' hmx hmy
    have hy':=((hset y).1 hy).resolve_left ey
    rw [<-hνj y hy']
    exact hap x y hne hx' hy' hmx hmy
  unfold wpOp
  simp only [ho]
  rw [ew]
  rcases hstep with ⟨hw,hne,hp,hy⟩ | ⟨hw,hne,hv,hc⟩ | ⟨hw,hne,hp,hv⟩ | ⟨hw,hne,hp,hv,hy⟩
  ·rw [if_pos hw]
   left
   obtain ⟨w',hr,hg⟩:=hy w hb hfacts
   unfold Oper.wp
   rw [ex]
   rcases hr with hr | ⟨hr,hv⟩
   ·rw [hr];exact next w' hne hg (by rw [hp];trivial) (by rw [hp];rfl)
   rw [hr,Oper.upon_skip, <-hv];exact next w' hne hg (by rw [hp];trivial) (by rw [hp];rfl)
  ·rw [if_pos hw]
   left
   rcases hc with hc | ⟨mk,A,hk,hc⟩
   ·obtain ⟨f,args,hr,hcall⟩:=hc w hb hfacts
    unfold Oper.wp
    rw [ex,hr,Oper.upon_enter]
    refine hcall.mono fun e w' ⟨u,he,hs,hg⟩ => ?_
    subst he
    show wpAny P .any ops Q (m+(ops.size - n)) (listed.setIfInBounds i true) (a.put o.dst u) w'
    cases hk:Ss i with
    | plain=>rw [hk] at hs;exact hs.elim
    | made _ _ _=>rw [hk] at hs;exact hs.elim
    | const c =>
     rw [hk] at hs hv
     have:u=vals i:=by rw [hv];exact hs
     rw [this]
     exact next w' hne hg (by rw [hk];trivial) (by rw [hk];rfl)
    | holds S =>
     rw [hk] at hs
     have:=fresh u w' hne hg (by rw [hk];exact hs) (by rw [hk];intro h;cases h) (by rw [hk];intro h;cases h)
     rw [hk] at this
     exact this
   obtain ⟨T,hr⟩:=hc w hb hfacts
   unfold Oper.wp
   rw [ex,hr,Oper.upon_value]
   have:=fresh (.pointer (some ⟨w.heap.size,0,none⟩)) (w.alloc (.cells A T)) hne ((Below.refl _ _).alloc (aA _) _) (by rw [hk];exact ⟨_,rfl,hsz,Box.new _ _ _⟩) (by rw [hk];intro h;cases h) (fun _=>rfl)
   rw [hk] at this
   exact this
  ·rw [hw]
   simp only [bG,if_false]
   rw [<-hv]
   exact next w hne (Below.refl _ _) (by rw [hp];trivial) (by rw [hp];rfl)
  rw [if_pos hw]
  left
  have hlm:=hdep m0 (by rw [hne];exact hdφ)
  have h1:=hf m0 hm0n hlm (fun _=>by rw [<-hne];exact getD_both hun)
  rw [hm0] at h1
  obtain ⟨b',e,hB,hx⟩:=h1
  obtain ⟨w',hr,hg,hx'⟩:=hy w b' hb hfacts e hB hx
  unfold Oper.wp
  rw [ex,hr,Oper.upon_skip, <-hv]
  exact filled w' b' hne e hB hg hx' hp
theorem wp_region_grow {id:Nat} {Q:Exit -> Act -> World -> Prop} {a:Act} {w:World} {l:List Oper} (n:Nat) (Ss:Nat -> Known) {mk0:Nat -> Value} (hm:P.follows .mixedOrders=true) (hB:iU l.toArray n=true) (hlast:∀ k,(Ss k).lasts) (hfirm:∀ k S,Ss k = .holds S -> ∀ u w1 w2 b,w.heap.size <= b -> S u w1 -> Turn [b] w1 w2 -> S u w2)
  (hm0:Ss m0 = .made w.heap.size mk0 A0) (hφn : φ < n) (hm0n:m0 < n) (hdφ : depB l.toArray l.toArray.size φ m0=true)
  (h:∀ ν,Grow φ m0 A0 A' P l.toArray w Ss ν (wpList P l.toArray Q (l.drop n)) (l.take n) 0 a):(Code.region id l.toArray true).wp P Q a w:=by
 have hB':=hB
 simp only [iU,aJ,bV,decide_eq_true_eq,beq_iff_eq] at hB
 obtain ⟨⟨⟨⟨⟨hsel,hn⟩,hed⟩,ht⟩,hsc⟩,hseq⟩:=hB
 have hn' : n <= l.length:=by simpa using hn
 have hall:∀ ν, ∃ vals,Told φ m0 A0 A' P l.toArray n w Ss (wpList P l.toArray Q (l.drop n)) a ν vals:=fun ν =>
  kI ht (fun j hj=>by
   have hj' : j < n:=by simp at hj;omega
   simp [hj']) (by simp;omega) (h ν)
 obtain ⟨vals,htold⟩:=hall fun _=>undef
 refine wp_region_any hm ?_
 have inv0:HeadInv .any l.toArray n (Array.replicate l.toArray.size false) :=
  ⟨by simp,fun j oj _ hl=>(by rw [getD_replicate_false] at hl;cases hl),fun t _ ht=>getD_in (by simpa using ht) (getD_replicate_false _ _)⟩
 have hc:∀ m,m <= l.toArray.size -> cnt (Array.replicate l.toArray.size false) m=m:=by
  intro m
  induction m with
  | zero=>intro _;rfl
  | succ m ih =>
   intro hm
   have:(Array.replicate l.toArray.size false).getD m true=false:=getD_in (by simp at hm ⊢;omega) (getD_replicate_false _ _)
   simp only [cnt]
   rw [ih (by omega),this]
   simp
 have:=jH (P:=P) (Q:=Q) (tail:=l.drop n) hB' hlast hfirm hm0 hφn hm0n hdφ (fun j=>by simp [bM]) hall n (Array.replicate l.toArray.size false) a w.drew _ vals inv0 (hc n hn) htold
  (Below.refl w.heap.size w).drew (fun j hl=>by rw [getD_replicate_false] at hl;cases hl) (fun j _ hl=>by rw [getD_replicate_false] at hl;cases hl) (fun hl=>by rw [getD_replicate_false] at hl;cases hl) (fun i j _ hl=>by rw [getD_replicate_false] at hl;cases hl) (Fr.start fun j _ hl=>by rw [getD_replicate_false] at hl;cases hl)
 rw [show n+(l.toArray.size - n)=l.toArray.size by omega] at this
 exact this
end
end Six
theorem nV (W:World) (b i:Nat) (v:Value):Turn [b] W (W.setCell ⟨b,i,none⟩ v) :=
 ⟨rfl,rfl,rfl,by simp [World.setCell],fun k _ hn=>Below.heap_setCell W ⟨b,i,none⟩ v k (fun e=>hn (by simp at e;simp [e]))⟩
theorem vJ {W:World} {b:Nat} {x0 x1 x2 x3:Value} (h:Box W b #[x0,x1,x2,x3]) (v0 v1 v2 v3:Value) :
  Turn [b] W ((((W.setCell ⟨b,0,none⟩ v0).setCell ⟨b,1,none⟩ v1).setCell ⟨b,2,none⟩ v2).setCell ⟨b,3,none⟩ v3)/\Box ((((W.setCell ⟨b,0,none⟩ v0).setCell ⟨b,1,none⟩ v1).setCell ⟨b,2,none⟩ v2).setCell ⟨b,3,none⟩ v3) b #[v0,v1,v2,v3] :=
 ⟨(((nV W b 0 v0).trans (nV _ b 1 v1)).trans (nV _ b 2 v2)).trans (nV _ b 3 v3),by simpa using (((h.set 0 v0).set 1 v1).set 2 v2).set 3 v3⟩
end Go.Proofs.YtagabiidbbhhmaaGreat
