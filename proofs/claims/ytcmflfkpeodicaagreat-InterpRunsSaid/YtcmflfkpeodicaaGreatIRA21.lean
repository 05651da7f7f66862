/- Part 21. -/
import Derived.Test.YtcmflfkpeodicaaGreatIRA20
namespace Go.Proofs.YtcmflfkpeodicaaGreat
set_option linter.all false
open Go Go.RowKit
namespace Four
section
variable {P:Program} {ops:Array Oper} {XF:Nat -> Foot} {I:World -> Prop}
def All (XF:Nat -> Foot):Foot:=fun k => ∃ j,XF j k
def But (ops:Array Oper) (XF:Nat -> Foot) (i:Nat):Foot:=fun k => ∃ j,j ≠ i/\depB ops ops.size j i=false/\XF j k
def Rest (XF:Nat -> Foot) (i:Nat):Foot:=fun k => ∃ j,j ≠ i/\XF j k
def Step (XF:Nat -> Foot) (I:World -> Prop) (i:Nat) (w w' : World):Prop:=Off (XF i) w w' /\ (I w -> I w')
def AllR (XF:Nat -> Foot) (I:World -> Prop) (w w' : World):Prop:=Off (All XF) w w' /\ I w'
theorem AllR.step {i:Nat} {w0 w w' : World} (h:AllR XF I w0 w) (k:Step XF I i w w'):AllR XF I w0 w':=⟨h.1.trans (Off.mono k.1 fun q _ hk=>⟨i,hk⟩),k.2 h.2⟩
theorem Step.but {i q:Nat} {w w' : World} (h:Step XF I i w w') (hne:i ≠ q) (hd:depB ops ops.size i q=false):Off (But ops XF q) w w':=Off.mono h.1 fun k _ hk=>⟨i,hne,hd,hk⟩
theorem Step.rest {i q:Nat} {w w' : World} (h:Step XF I i w w') (hne:i ≠ q):Off (Rest XF q) w w':=Off.mono h.1 fun k _ hk=>⟨i,hne,hk⟩
theorem Step.of (hI:∀ w w',I w -> Below w.heap.size w w' -> I w') {i:Nat} {w w' : World} (h:Below w.heap.size w w'):Step XF I i w w':=⟨Off.of_below h _,fun k=>hI w w' k h⟩
def Pre (ops:Array Oper) (XF:Nat -> Foot) (I:World -> Prop) (i:Nat) (w w' : World):Prop:=Off (But ops XF i) w w' /\ I w'
theorem Pre.off {i:Nat} {w w' : World} (h:Pre ops XF I i w w'):Off (All XF) w w':=Off.mono h.1 fun k _ ⟨j,_,_,hk⟩=>⟨j,hk⟩
theorem AllR.off {w w' : World} (h:AllR XF I w w'):Off (All XF) w w':=h.1
def firm (XF:Nat -> Foot) (j:Nat) (k:Known):Prop:=match k with
 | .holds S => ∀ u w1 w2,S u w1 -> Off (Rest XF j) w1 w2 -> S u w2
 | _=>True
def Oper.gives (P:Program) (o:Oper) (a:Act) (w:World) (S:Value -> World -> Prop) (T:World -> World -> Prop):Prop :=
 ∃ u w',((execOp a.eval o).run P w = .ok (.value u) w' \/ ((execOp a.eval o).run P w = .ok .skip w' /\ u=undef))/\S u w' /\ T w w'
def Oper.callsTo2 (P:Program) (o:Oper) (a:Act) (w:World) (S:Value -> World -> Prop) (T:World -> World -> Prop):Prop:=Oper.callsTo P o a w S \/ Oper.gives P o a w S T
def Grow (XF:Nat -> Foot) (I:World -> Prop) (P:Program) (ops:Array Oper) (w0:World) (Ss:(Nat -> Value) -> Nat -> Known) (ν : Nat -> Value) (L:Act -> World -> Prop):List Oper -> Nat -> Act -> Prop
 | [],k,a => ∀ w',AllR XF I w0 w' -> (∀ j,j < k -> (Ss ν j).fact (ν j) w') -> tL (Ss ν) ν k -> L a w'
 | o :: rest,k,a =>
  if Region.wanted o (yielded ops a.tmps) then
   (Ss ν k = .plain /\ ∃ v,(∀ w',Pre ops XF I k w0 w' -> jB ops (Ss ν) ν k w' -> Oper.yields P o a w' v)/\Grow XF I P ops w0 Ss ν L rest (k+1) (a.put o.dst v)) \/
   ((∀ w',Pre ops XF I k w0 w' -> jB ops (Ss ν) ν k w' -> Oper.callsTo2 P o a w' (Ss ν k).spec (Step XF I k))/\Grow XF I P ops w0 Ss ν L rest (k+1) (a.put o.dst ((Ss ν k).val (ν k)))) \/
   (∃ mk A,Ss ν k = .made w0.heap.size mk A/\(∀ w',Pre ops XF I k w0 w' -> jB ops (Ss ν) ν k w' -> Oper.makes P o a w' mk A)/\Grow XF I P ops w0 Ss ν L rest (k+1) (a.put o.dst ((Ss ν k).val (ν k))))
  else Ss ν k = .plain/\Grow XF I P ops w0 Ss ν L rest (k+1) (a.put o.dst undef)
theorem Grow.val {w0:World} {Ss:(Nat -> Value) -> Nat -> Known} {ν : Nat -> Value} {L:Act -> World -> Prop} {o:Oper} {rest:List Oper} {k:Nat} {a:Act} {v:Value} (hg:Region.wanted o (yielded ops a.tmps)=true) (hk:Ss ν k = .plain)
  (hy:∀ w',Pre ops XF I k w0 w' -> jB ops (Ss ν) ν k w' -> (execOp a.eval o).run P w' = .ok (.value v) w') (h:Grow XF I P ops w0 Ss ν L rest (k+1) (a.put o.dst v)):Grow XF I P ops w0 Ss ν L (o :: rest) k a:=by
 simp only [Grow,hg,if_true]
 exact .inl ⟨hk,v,fun w' h1 h2=>⟨w',.inl (hy w' h1 h2),Below.refl _ _⟩,h⟩
theorem Grow.call {w0:World} {Ss:(Nat -> Value) -> Nat -> Known} {ν : Nat -> Value} {L:Act -> World -> Prop} {o:Oper} {rest:List Oper} {k:Nat} {a:Act} {f:FuncId} {args:Array Value} (hg:Region.wanted o (yielded ops a.tmps)=true)
  (hrun:∀ w' : World,(execOp a.eval o).run P w' = .ok (.enter f args) w')
  (hy:∀ w',Pre ops XF I k w0 w' -> jB ops (Ss ν) ν k w' -> Calls P f args w' fun e w'' => ∃ u,e = .returned u/\(Ss ν k).spec u w'' /\ Below w'.heap.size w' w'')
  (h:Grow XF I P ops w0 Ss ν L rest (k+1) (a.put o.dst ((Ss ν k).val (ν k)))):Grow XF I P ops w0 Ss ν L (o :: rest) k a:=by
 simp only [Grow,hg,if_true]
 exact .inr (.inl ⟨fun w' h1 h2=>.inl ⟨f,args,hrun w',hy w' h1 h2⟩,h⟩)
theorem Grow.gives {w0:World} {Ss:(Nat -> Value) -> Nat -> Known} {ν : Nat -> Value} {L:Act -> World -> Prop} {o:Oper} {rest:List Oper} {k:Nat} {a:Act} (hg:Region.wanted o (yielded ops a.tmps)=true)
  (hy:∀ w',Pre ops XF I k w0 w' -> jB ops (Ss ν) ν k w' -> ∃ u w'',(execOp a.eval o).run P w' = .ok (.value u) w'' /\ (Ss ν k).spec u w'' /\ Step XF I k w' w'')
  (h:Grow XF I P ops w0 Ss ν L rest (k+1) (a.put o.dst ((Ss ν k).val (ν k)))):Grow XF I P ops w0 Ss ν L (o :: rest) k a:=by
 simp only [Grow,hg,if_true]
 exact .inr (.inl ⟨fun w' h1 h2=>.inr (let ⟨u,w'',q1,q2⟩:=hy w' h1 h2; ⟨u,w'',.inl q1,q2⟩),h⟩)
theorem Grow.made {w0:World} {Ss:(Nat -> Value) -> Nat -> Known} {ν : Nat -> Value} {L:Act -> World -> Prop} {o:Oper} {rest:List Oper} {k:Nat} {a:Act} {mk:Nat -> Value} {A:Array Value} {T:TypeId} (hg:Region.wanted o (yielded ops a.tmps)=true) (hk:Ss ν k = .made w0.heap.size mk A)
  (hy:∀ w',Pre ops XF I k w0 w' -> jB ops (Ss ν) ν k w' -> (execOp a.eval o).run P w' = .ok (.value (mk w'.heap.size)) (w'.alloc (.cells A T))) (h:Grow XF I P ops w0 Ss ν L rest (k+1) (a.put o.dst ((Ss ν k).val (ν k)))):Grow XF I P ops w0 Ss ν L (o :: rest) k a:=by
 simp only [Grow,hg,if_true]
 exact .inr (.inr ⟨mk,A,hk,fun w' h1 h2=>⟨T,hy w' h1 h2⟩,h⟩)
theorem Grow.skip {w0:World} {Ss:(Nat -> Value) -> Nat -> Known} {ν : Nat -> Value} {L:Act -> World -> Prop} {o:Oper} {rest:List Oper} {k:Nat} {a:Act} (hg:Region.wanted o (yielded ops a.tmps)=false) (hk:Ss ν k = .plain)
  (h:Grow XF I P ops w0 Ss ν L rest (k+1) (a.put o.dst undef)):Grow XF I P ops w0 Ss ν L (o :: rest) k a:=by
 simp only [Grow,hg,bL,if_false]
 exact ⟨hk,h⟩
def jP (XF:Nat -> Foot) (I:World -> Prop) (P:Program) (ops:Array Oper) (w0:World) (Ss:(Nat -> Value) -> Nat -> Known) (ν : Nat -> Value) (o:Oper) (k:Nat) (a:Act) (v:Value):Prop :=
 (Region.wanted o (yielded ops a.tmps)=true/\Ss ν k = .plain /\ ∀ w',Pre ops XF I k w0 w' -> jB ops (Ss ν) ν k w' -> Oper.yields P o a w' v) \/
 (Region.wanted o (yielded ops a.tmps)=true/\v=(Ss ν k).val (ν k)/\((∀ w',Pre ops XF I k w0 w' -> jB ops (Ss ν) ν k w' -> Oper.callsTo2 P o a w' (Ss ν k).spec (Step XF I k)) \/
  ∃ mk A,Ss ν k = .made w0.heap.size mk A /\ ∀ w',Pre ops XF I k w0 w' -> jB ops (Ss ν) ν k w' -> Oper.makes P o a w' mk A)) \/
 (Region.wanted o (yielded ops a.tmps)=false/\Ss ν k = .plain/\v=undef)
structure Told (XF:Nat -> Foot) (I:World -> Prop) (P:Program) (ops:Array Oper) (n:Nat) (w0:World) (Ss:(Nat -> Value) -> Nat -> Known) (L:Act -> World -> Prop) (a0:Act) (ν vals:Nat -> Value):Prop where
 step:∀ k o,ops[k]? = some o -> k < n -> ∃ b,Fr ops n a0 vals (· < k) b/\jP XF I P ops w0 Ss ν o k b (vals k)
 done:∃ b,Fr ops n a0 vals (· < n) b /\ ∀ w',AllR XF I w0 w' -> (∀ j,j < n -> (Ss ν j).fact (ν j) w') -> tL (Ss ν) ν n -> L b w'
theorem jG {n:Nat} {w0:World} {Ss:(Nat -> Value) -> Nat -> Known} {L:Act -> World -> Prop} {a0:Act} {ν : Nat -> Value} (ht:lE ops n=true) :
  ∀ (l:List Oper) (k:Nat) (a:Act) (v0:Nat -> Value),(∀ j,j < l.length -> ops[k+j]? = l[j]?) -> k+l.length=n -> Fr ops n a0 v0 (· < k) a -> Grow XF I P ops w0 Ss ν L l k a ->
   ∃ vals:Nat -> Value,(∀ j,j < k -> vals j=v0 j)/\(∀ j o,ops[j]? = some o -> k <= j -> j < n -> ∃ b,Fr ops n a0 vals (· < j) b/\jP XF I P ops w0 Ss ν o j b (vals j)) /\
    ∃ b,Fr ops n a0 vals (· < n) b /\ ∀ w',AllR XF I w0 w' -> (∀ j,j < n -> (Ss ν j).fact (ν j) w') -> tL (Ss ν) ν n -> L b w'
 | [],k,a,v0,_,hk,hf,h=>by
  have hk' : k=n:=by simpa using hk
  subst hk'
  exact ⟨v0,fun _ _=>rfl,fun j o _ h1 h2=>by omega,a,hf,h⟩
 | o :: rest,k,a,v0,hl,hk,hf,h=>by
  simp only [bB] at hk
  have ho:ops[k]? = some o:=by simpa using hl 0 (by simp)
  have hl' : ∀ j,j < rest.length -> ops[k+1+j]? = rest[j]?:=fun j hj=>by
   have:=hl (j+1) (by simp;omega)
   simpa [Nat.add_assoc,Nat.add_comm 1 j] using this
  have key:∃ v,jP XF I P ops w0 Ss ν o k a v/\Grow XF I P ops w0 Ss ν L rest (k+1) (a.put o.dst v):=by
   simp only [Grow] at h
   by_cases hw:Region.wanted o (yielded ops a.tmps)=true
   ·simp only [hw,if_true] at h
    rcases h with ⟨h1,v,h2,h3⟩ | ⟨h2,h3⟩ | ⟨mk,A,h1,h2,h3⟩
    ·exact ⟨v,.inl ⟨hw,h1,h2⟩,h3⟩
    ·exact ⟨_,.inr (.inl ⟨hw,rfl,.inl h2⟩),h3⟩
    exact ⟨_,.inr (.inl ⟨hw,rfl,.inr ⟨mk,A,h1,h2⟩⟩),h3⟩
   simp only [dI] at hw
   simp only [hw,bL,if_false] at h
   exact ⟨undef,.inr (.inr ⟨hw,h.1,rfl⟩),h.2⟩
  obtain ⟨v,hs,hg⟩:=key
  let v1:Nat -> Value:=fun j=>if j=k then v else v0 j
  have e1:∀ j,j < k -> v1 j=v0 j:=fun j hj=>by simp only [v1];rw [if_neg (by omega)]
  have ek:v1 k=v:=by simp [v1]
  have hf1:Fr ops n a0 v1 (· < k) a:=hf.congr (fun j _ hj=>(e1 j hj).symm) (fun _ _=>Iff.rfl)
  have hf2:=hf1.put ht ho (by omega)
  rw [ek] at hf2
  have hf3:Fr ops n a0 v1 (· < k+1) (a.put o.dst v):=hf2.congr (fun _ _ _=>rfl) (fun j _=>by omega)
  obtain ⟨vals,hv,hst,hd⟩:=jG ht rest (k+1) _ v1 hl' (by omega) hf3 hg
  refine ⟨vals,fun j hj=>(hv j (by omega)).trans (e1 j hj),fun j oj hj hkj hjn => ?_,hd⟩
  by_cases hjk:j=k
  ·subst hjk
   rw [ho] at hj
   cases hj
   refine ⟨a,hf1.congr (fun i _ hi=>(hv i (by omega)).symm) (fun _ _=>Iff.rfl), ?_⟩
   rw [hv j (by omega),ek]
   exact hs
  exact hst j oj hj (by omega) hjn
theorem oF {n:Nat} {w0:World} {Ss:(Nat -> Value) -> Nat -> Known} {L:Act -> World -> Prop} {a0:Act} {ν : Nat -> Value} {l:List Oper} (ht:lE ops n=true) (hl:∀ j,j < l.length -> ops[j]? = l[j]?) (hn:l.length=n)
  (h:Grow XF I P ops w0 Ss ν L l 0 a0):∃ vals,Told XF I P ops n w0 Ss L a0 ν vals:=by
 obtain ⟨vals,_,h1,h2⟩:=jG ht l 0 a0 (fun _=>undef) (fun j hj=>by rw [bH];exact hl j hj) (by omega) (Fr.start fun j _ hj=>by omega) h
 exact ⟨vals,fun k o hk hkn=>h1 k o hk (by omega) hkn,h2⟩
theorem lA {n:Nat} {w0:World} {Ss:(Nat -> Value) -> Nat -> Known} {L L' : Act -> World -> Prop} {a0:Act} {ν ν' vals vals' : Nat -> Value} {listed:Array Bool} (ht:lE ops n=true) (hsel:Region.noSelect ops=true) (hn:n <= ops.size) (hS:∀ ν ν' k,(∀ q,depB ops ops.size k q=true -> ν q = ν' q) -> Ss ν k=Ss ν' k)
  (hc:∀ j oj,ops[j]? = some oj -> listed.getD j false=true -> ∀ e ∈ oj.after,Region.binds .any e=true -> listed.getD e.on false=true)
  (h:Told XF I P ops n w0 Ss L a0 ν vals) (h' : Told XF I P ops n w0 Ss L' a0 ν' vals') (hw:∀ j,listed.getD j false=true -> ∃ wj,Pre ops XF I j w0 wj/\jB ops (Ss ν) ν j wj)
  (hν : ∀ j,listed.getD j false=true -> ν j = ν' j):∀ (j:Nat),j < n -> listed.getD j false=true -> vals j=vals' j:=by
 intro j
 induction j using Nat.strongRecOn with
 | _ j ih =>
  intro hjn hlj
  cases ho:ops[j]? with
  | none =>
   have:=(cA.1 ho)
   omega
  | some o =>
   obtain ⟨b,hb1,hs⟩:=h.step j o ho hjn
   obtain ⟨b',hb2,hs'⟩:=h'.step j o ho hjn
   have hin:∀ i,i < n -> gZ ops j i=true -> i < j -> i < j/\i < j/\vals i=vals' i:=fun i hi he hij=>by
    obtain ⟨oj,hoj,e,hem,hbi,hon⟩:=fT he
    refine ⟨hij,hij,ih i hij hi ?_⟩
    rw [<-hon]
    exact hc j oj hoj hlj e hem hbi
   obtain ⟨ex,ew⟩:=iN (ops:=ops) (o:=o) (fun cs b=>Region.noSelect_spec hsel j o cs b ho) (fun d hd=>Fr.same ht hb1 hb2 ho hjn hin d hd)
   have hdep:∀ i,depB ops ops.size j i=true -> listed.getD i false=true:=fun i hi =>
    fU rfl hc ops.size j i (fun o' ho'=>hc j o' ho' hlj) hi
   have hag:∀ i,listed.getD i false=true -> Ss ν' i=Ss ν i:=fun i hl=>hS ν' ν i fun q hq=>(hν q (fU rfl hc ops.size i q (fun o' ho'=>hc i o' ho' hl) hq)).symm
   have hSj:=hag j hlj
   unfold jP at hs'
   rw [hSj] at hs'
   obtain ⟨w',hb,F1⟩:=hw j hlj
   have F2:jB ops (Ss ν') ν' j w':=fun i hi=>by rw [hag i (hdep i hi), <-hν i (hdep i hi)];exact F1 i hi
   rcases hs with ⟨w1,p1,y1⟩ | ⟨w1,e1,y1⟩ | ⟨w1,p1,e1⟩ <;> rcases hs' with ⟨w2,p2,y2⟩ | ⟨w2,e2,y2⟩ | ⟨w2,p2,e2⟩
   ·obtain ⟨x,r1,_⟩:=y1 w' hb F1
    obtain ⟨y,r2,_⟩:=y2 w' hb F2
    rw [<-ex] at r2
    rcases r1 with r1 | ⟨r1,q1⟩ <;> rcases r2 with r2 | ⟨r2,q2⟩ <;> rw [r1] at r2 <;> simp_all
   ·obtain ⟨x,r1,_⟩:=y1 w' hb F1
    rcases y2 with y2 | ⟨mk,A,hk,_⟩
    ·rcases y2 w' hb F2 with ⟨f,args,r2,_⟩ | ⟨z,w2,_,hz,_⟩
     ·rw [<-ex] at r2
      rcases r1 with r1 | ⟨r1,q1⟩ <;> rw [r1] at r2 <;> simp_all
     rw [p1] at hz;exact hz.elim
    rw [p1] at hk;cases hk
   ·rw [ew,w2] at w1;cases w1
   ·obtain ⟨y,r2,_⟩:=y2 w' hb F2
    rcases y1 with y1 | ⟨mk,A,hk,_⟩
    ·rcases y1 w' hb F1 with ⟨f,args,r1,_⟩ | ⟨z,w1,_,hz,_⟩
     ·rw [<-ex] at r2
      rcases r2 with r2 | ⟨r2,q2⟩ <;> rw [r1] at r2 <;> simp_all
     rw [p2] at hz;exact hz.elim
    rw [p2] at hk;cases hk
   ·rw [e1,e2,hν j hlj]
   ·rw [ew,w2] at w1;cases w1
   ·rw [ew,w2] at w1;cases w1
   ·rw [ew,w2] at w1;cases w1
   rw [e1,e2]
set_option maxHeartbeats 1000000 in
theorem mN {n:Nat} {w0:World} {Ss:(Nat -> Value) -> Nat -> Known} {Q:Exit -> Act -> World -> Prop} {tail:List Oper} {a0:Act} (hB:jJ ops n=true) (hfirm:∀ ν j,firm XF j (Ss ν j)) (hS:∀ ν ν' k,(∀ q,depB ops ops.size k q=true -> ν q = ν' q) -> Ss ν k=Ss ν' k) (hX:∀ j b,XF j b -> b < w0.heap.size) (hI:∀ w w',I w -> Below w.heap.size w w' -> I w') (hmB:∀ ν j B mk A,Ss ν j = .made B mk A -> w0.heap.size <= B)
  (htail:∀ j,tail[j]? = ops[n+j]?) (hall:∀ ν, ∃ vals,Told XF I P ops n w0 Ss (wpList P ops Q tail) a0 ν vals) :
  ∀ (m:Nat) (listed:Array Bool) (a:Act) (w:World) (ν vals:Nat -> Value),HeadInv .any ops n listed -> cnt listed n=m -> Told XF I P ops n w0 Ss (wpList P ops Q tail) a0 ν vals ->
   AllR XF I w0 w -> (∀ q,listed.getD q false=false -> Off (But ops XF q) w0 w) -> (∀ j,listed.getD j false=true -> ∃ wj,Pre ops XF I j w0 wj/\jB ops (Ss ν) ν j wj) -> (∀ j,j < n -> listed.getD j false=true -> (Ss ν j).fact (ν j) w) -> (∀ i j,i ≠ j -> listed.getD i false=true -> listed.getD j false=true -> (Ss ν i).isMade=true -> (Ss ν j).isMade=true -> ν i ≠ ν j) -> Fr ops n a0 vals (fun j=>listed.getD j false=true) a -> wpAny P .any ops Q (m+(ops.size - n)) listed a w:=by
 simp only [jJ,aN,bQ,decide_eq_true_eq,beq_iff_eq] at hB
 obtain ⟨⟨⟨⟨⟨hsel,hn⟩,hed⟩,ht⟩,hsc⟩,hseq⟩:=hB
 intro m
 induction m with
 | zero =>
  intro listed a w ν vals inv hcnt htold hb hb0 hwit hf hap hfr
  have hlen:tail.length=ops.size - n:=by
   apply dV
   ·by_cases hle:tail.length <= ops.size - n
    ·exact hle
    have h1:=htail (ops.size - n)
    rw [bA (by omega)] at h1
    have:=dD.1 h1
    omega
   by_cases hle:ops.size - n <= tail.length
   ·exact hle
   have h1:=htail tail.length
   rw [aW (aF _)] at h1
   have:=cA.1 h1.symm
   omega
  have hl:∀ j,j < n -> listed.getD j false=true:=fun j hj=>fI (jI n hcnt j hj) (by rw [inv.size];omega)
  have hlist:listed=fP ops.size n:=by
   apply dF
   intro j
   by_cases hj:j < ops.size
   ·have e2:(fP ops.size n)[j]? = some (decide (j < n)):=by simp [fP,hj]
    rw [e2]
    by_cases hjn:j < n
    ·have:=hl j hjn
     rw [bI] at this
     cases hx:listed[j]? with
     | none=>rw [hx] at this;cases this
     | some b=>rw [hx] at this;simp at this;rw [this,decide_eq_true hjn]
    have:=inv.tail j (by omega) hj
    rw [bI] at this
    cases hx:listed[j]? with
    | none=>rw [hx] at this;cases this
    | some b=>rw [hx] at this;simp at this;rw [this,decide_eq_false hjn]
   rw [bA (by rw [inv.size];omega),bA (by simp [fP];omega)]
  obtain ⟨b,hb1,hb2⟩:=htold.done
  have hab:a=b:=hfr.eq hb1 fun j hj=>⟨fun _=>hj,fun _=>hl j hj⟩
  subst hab
  have:=wpAny_of_seq (md:=.any) (Q':=Q) tail n listed a w htail (by rw [hlist,hlen];exact hseq) (hb2 w hb (fun j hj=>hf j hj (hl j hj)) (fun i j hi hj hne h1 h2=>hap i j hne (hl i hi) (hl j hj) h1 h2))
  rw [hlen] at this
  rw [bH]
  exact this
 | succ m ih =>
  intro listed a w ν vals inv hcnt htold hb hb0 hwit hf hap hfr
  rw [show m+1+(ops.size - n)=(m+(ops.size - n))+1 by omega]
  obtain ⟨k0,hk0,hu0,hless⟩:=jR (listed:=listed) n (by omega)
  have hready0:k0 ∈ Region.ready .any ops listed:=by
   refine mem_ready.2 ⟨hu0,ops[k0],bC (by omega),fun e he hbi => ?_⟩
   have:=iD hed hk0 (bC (by omega)) he hbi
   exact fI (hless _ this) (by rw [inv.size];omega)
  refine ⟨fun h0=>(by rw [h0] at hready0;cases hready0),fun i hi => ?_⟩
  have hin:i < n:=by
   rcases dC i n with h | h
   ·exact h
   rcases hsc with h1 | h1
   ·obtain ⟨_,o,ho,_⟩:=mem_ready.1 hi
    have:=(aS.1 ho).1
    omega
   by_cases hns:n < ops.size
   ·exact absurd hi (tail_waits h1.1 h1.2 hns inv _ k0 rfl hk0 hu0 i h)
   obtain ⟨_,o,ho,_⟩:=mem_ready.1 hi
   have:=(aS.1 ho).1
   omega
  obtain ⟨hun,o,ho,hedge⟩:=mem_ready.1 hi
  have hinv':=inv.set hi hin
  have hcnt' : cnt (listed.setIfInBounds i true) n=m:=by
   have:=(mH (by rw [inv.size];omega) hun n).2 hin
   omega
  have hset:∀ j,(listed.setIfInBounds i true).getD j false=true ↔ (j=i \/ listed.getD j false=true):=fun j=>by
   by_cases e:i=j
   ·subst e
    have:i < listed.size:=by rw [inv.size];omega
    simp [this]
   rw [getD_set_ne false e]
   exact ⟨fun h=>.inr h,fun h=>h.resolve_left (fun e'=>e e'.symm)⟩
  obtain ⟨b,hfb,hstep⟩:=htold.step i o ho hin
  have hlook:∀ d,d ∈ o.looksAt ops -> a.tmps[d]? = b.tmps[d]?:=fun d hd=>Fr.same ht hfr hfb ho hin (fun j hj he hji=>by
   obtain ⟨oj,hoj,e,hem,hbi,hon⟩:=fT he
   rw [ho] at hoj
   cases hoj
   exact ⟨by rw [<-hon];exact hedge e hem hbi,hji,rfl⟩) d hd
  obtain ⟨ex,ew⟩:=iN (ops:=ops) (o:=o) (fun cs b=>Region.noSelect_spec hsel i o cs b ho) hlook
  have hdep:∀ j,depB ops ops.size i j=true -> listed.getD j false=true:=fun j hj =>
   fU rfl inv.closed ops.size i j (fun o' ho'=>by rw [ho] at ho';cases ho';exact hedge) hj
  have hsmall:∀ j,listed.getD j false=true -> j < n:=fun j hj=>by
   rcases dC j n with h | h
   ·exact h
   rcases dC j ops.size with h2 | h2
   ·have:=getD_both (inv.tail j h h2)
    rw [this] at hj;cases hj
   rw [bI,bA (by rw [inv.size];omega)] at hj
   cases hj
  have hfacts:jB ops (Ss ν) ν i w:=fun j hj=>hf j (hsmall j (hdep j hj)) (hdep j hj)
  have hsz:w0.heap.size <= w.heap.size:=hb.1.size
  have later:∀ (w' : World),Step XF I i w w' -> ∀ j,listed.getD j false=true -> (Ss ν j).fact (ν j) w':=fun w' hg j hl=>by
   have h1:=hf j (hsmall j hl) hl
   have hji:j ≠ i:=fun e=>by rw [e,getD_both hun] at hl;cases hl
   have h2:=hfirm ν j
   have hg' : Off (Rest XF j) w w':=Step.rest hg (fun e=>hji e.symm)
   have hm:=hmB ν j
   generalize Ss ν j=s at h1 h2 hm ⊢
   cases s with
   | holds S=>exact h2 _ _ _ h1 hg'
   | made B mk A =>
    obtain ⟨b,e,hB,hx⟩:=h1
    exact ⟨b,e,hB,hx.off hg' (fun ⟨q,_,hm'⟩=>by have:=hX q b hm';have:=hm B mk A rfl;omega)⟩
   | _=>trivial
  have hb0' : ∀ w',Step XF I i w w' -> ∀ q,(listed.setIfInBounds i true).getD q false=false -> Off (But ops XF q) w0 w':=fun w' hg q hl=>by
   have hne:i ≠ q:=fun e=>by rw [(hset q).2 (.inl e.symm)] at hl;cases hl
   have hl0:listed.getD q false=false:=by rwa [getD_set_ne false hne] at hl
   exact (hb0 q hl0).trans (Step.but hg hne (by
    cases hd:depB ops ops.size i q with
    | false=>rfl
    | true=>rw [hdep q hd] at hl0;cases hl0))
  have hpre:Pre ops XF I i w0 w:=⟨hb0 i (getD_both hun),hb.2⟩
  -- the frame and the facts behind a step that leaves ν as it was
  have next:∀ (w' : World),Step XF I i w w' -> (Ss ν i).fact (ν i) w' -> (Ss ν i).isMade=false -> wpAny P .any ops Q (m+(ops.size - n)) (listed.setIfInBounds i true) (a.put o.dst (vals i)) w':=fun w' hg hfi hnm=>by
   refine ih _ _ _ ν vals hinv' hcnt' htold (hb.step hg) (hb0' w' hg) (fun j hl=>by
    rcases (hset j).1 hl with rfl | hl
    ·exact ⟨w,hpre,hfacts⟩
    exact hwit j hl) (fun j hj hl => ?_) (fun x y hne hx hy hmx hmy => ?_) ((hfr.put ht ho hin).congr (fun _ _ _=>rfl) (fun j _=>(hset j).symm))
   ·rcases (hset j).1 hl with rfl | hl
    ·exact hfi
    exact later w' hg j hl
   rcases (hset x).1 hx with rfl | hx
   ·rw [hnm] at hmx;cases hmx
   rcases (hset y).1 hy with rfl | hy
   ·rw [hnm] at hmy;cases hmy
   exact hap x y hne hx hy hmx hmy
  -- the same where the step gives the operation's own ghost
  have fresh:∀ (u:Value) (w' : World),Step XF I i w w' -> (Ss ν i).fact u w' -> Ss ν i ≠ .plain -> ((Ss ν i).isMade=true -> u = .pointer (some ⟨w.heap.size,0,none⟩)) ->
    wpAny P .any ops Q (m+(ops.size - n)) (listed.setIfInBounds i true) (a.put o.dst ((Ss ν i).val u)) w':=fun u w' hg hs hnp hmk=>by
   let ν' : Nat -> Value:=fun j=>if j=i then u else ν j
   have hνi : ν' i=u:=by simp [ν']
   have hνj:∀ j,listed.getD j false=true -> ν j = ν' j:=fun j hj=>by
    have hne:j ≠ i:=fun e=>by rw [e,getD_both hun] at hj;cases hj
    simp [ν',hne]
   obtain ⟨vals',htold'⟩:=hall ν'
   have hbw' : AllR XF I w0 w':=hb.step hg
   have hag:∀ j,listed.getD j false=true -> Ss ν' j=Ss ν j:=fun j hl=>hS ν' ν j fun q hq=>(hνj q (fU rfl inv.closed ops.size j q (fun o' ho'=>inv.closed j o' ho' hl) hq)).symm
   have hSi:Ss ν' i=Ss ν i:=hS ν' ν i fun q hq=>(hνj q (hdep q hq)).symm
   have hsame:=lA ht hsel hn hS inv.closed htold htold' hwit hνj
   have hvi:vals' i=(Ss ν i).val u:=by
    obtain ⟨b',hfb',hstep'⟩:=htold'.step i o ho hin
    unfold jP at hstep'
    rw [hSi] at hstep'
    rcases hstep' with ⟨_,hp',_⟩ | ⟨_,hv',_⟩ | ⟨_,hp',_⟩
    ·exact absurd hp' hnp
    ·rw [hv',hνi]
    exact absurd hp' hnp
   have hfr' : Fr ops n a0 vals' (fun j=>listed.getD j false=true) a:=hfr.congr (fun j hj hl=>hsame j hj hl) (fun _ _=>Iff.rfl)
   have old:∀ j,listed.getD j false=true -> (Ss ν j).isMade=true -> (Ss ν i).isMade=true -> ν j ≠ u:=fun j hl hmj hmi e=>by
    have h1:=hf j (hsmall j hl) hl
    rw [hmk hmi] at e
    generalize Ss ν j=s at h1 hmj
    cases s with
    | made B mk A =>
     obtain ⟨b,e2,_,hx⟩:=h1
     rw [e] at e2
     simp at e2
     have:=hx.lt
     omega
    | _=>cases hmj
   rw [<-hvi]
   refine ih _ _ _ ν' vals' hinv' hcnt' htold' hbw' (hb0' w' hg) (fun j hl=>by
    by_cases e:j=i
    ·subst e
     exact ⟨w,hpre,fun q hq=>by rw [hag q (hdep q hq), <-hνj q (hdep q hq)];exact hfacts q hq⟩
    have hl':=((hset j).1 hl).resolve_left e
    obtain ⟨wj,h1,h2⟩:=hwit j hl'
    have hd2:∀ q,depB ops ops.size j q=true -> listed.getD q false=true:=fun q hq=>fU rfl inv.closed ops.size j q (fun o' ho'=>inv.closed j o' ho' hl') hq
    exact ⟨wj,h1,fun q hq=>by rw [hag q (hd2 q hq), <-hνj q (hd2 q hq)];exact h2 q hq⟩) (fun j hj hl => ?_) (fun x y hne hx hy hmx hmy => ?_) ((hfr'.put ht ho hin).congr (fun _ _ _=>rfl) (fun j _=>(hset j).symm))
   ·by_cases e:j=i
    ·subst e;rw [hSi,hνi];exact hs
    have hl':=((hset j).1 hl).resolve_left e
    rw [hag j hl', <-hνj j hl']
    exact later w' hg j hl'
   ·by_cases ex:x=i
    ·subst ex
     have hy':=((hset y).1 hy).resolve_left (fun e=>hne e.symm)
     rw [hSi] at hmx
     rw [hag y hy'] at hmy
     rw [hνi, <-hνj y hy']
     exact fun e=>old y hy' hmy hmx e.symm
    have hx':=((hset x).1 hx).resolve_left ex
    rw [hag x hx'] at hmx
    rw [<-hνj x hx']
    by_cases ey:y=i
    ·subst ey
     rw [hSi] at hmy
     rw [hνi]
     exact old x hx' hmx hmy
    have hy':=((hset y).1 hy).resolve_left ey
    rw [hag y hy'] at hmy
    rw [<-hνj y hy']
    exact hap x y hne hx' hy' hmx hmy
  unfold wpOp
  simp only [ho]
  rw [ew]
  rcases hstep with ⟨hw,hp,hy⟩ | ⟨hw,hv,hc⟩ | ⟨hw,hp,hv⟩
  ·rw [if_pos hw]
   left
   obtain ⟨w',hr,hg⟩:=hy w hpre hfacts
   unfold Oper.wp
   rw [ex]
   rcases hr with hr | ⟨hr,hv⟩
   ·rw [hr];exact next w' (.of hI hg) (by rw [hp];trivial) (by rw [hp];rfl)
   rw [hr,Oper.upon_skip, <-hv];exact next w' (.of hI hg) (by rw [hp];trivial) (by rw [hp];rfl)
  ·rw [if_pos hw]
   left
   rcases hc with hc | ⟨mk,A,hk,hc⟩
   ·rcases hc w hpre hfacts with ⟨f,args,hr,hcall⟩ | ⟨u,w',hr,hs,hg⟩
    rotate_left
    ·unfold Oper.wp
     rcases hr with hr | ⟨hr,hu⟩
     ·rw [ex,hr,Oper.upon_value]
      cases hk:Ss ν i with
      | plain=>rw [hk] at hs;exact hs.elim
      | made _ _ _=>rw [hk] at hs;exact hs.elim
      | const c =>
       rw [hk] at hs hv
       have:u=vals i:=by rw [hv];exact hs
       rw [this]
       exact next w' hg (by rw [hk];trivial) (by rw [hk];rfl)
      | holds S =>
       rw [hk] at hs
       have:=fresh u w' hg (by rw [hk];exact hs) (by rw [hk];intro h;cases h) (by rw [hk];intro h;cases h)
       rw [hk] at this
       exact this
     rw [ex,hr,Oper.upon_skip, <-hu]
     cases hk:Ss ν i with
     | plain=>rw [hk] at hs;exact hs.elim
     | made _ _ _=>rw [hk] at hs;exact hs.elim
     | const c =>
      rw [hk] at hs hv
      have:u=vals i:=by rw [hv];exact hs
      rw [this]
      exact next w' hg (by rw [hk];trivial) (by rw [hk];rfl)
     | holds S =>
      rw [hk] at hs
      have:=fresh u w' hg (by rw [hk];exact hs) (by rw [hk];intro h;cases h) (by rw [hk];intro h;cases h)
      rw [hk] at this
      exact this
    unfold Oper.wp
    rw [ex,hr,Oper.upon_enter]
    refine hcall.mono fun e w' ⟨u,he,hs,hg⟩ => ?_
    subst he
    show wpAny P .any ops Q (m+(ops.size - n)) (listed.setIfInBounds i true) (a.put o.dst u) w'
    cases hk:Ss ν i with
    | plain=>rw [hk] at hs;exact hs.elim
    | made _ _ _=>rw [hk] at hs;exact hs.elim
    | const c =>
     rw [hk] at hs hv
     have:u=vals i:=by rw [hv];exact hs
     rw [this]
     exact next w' (.of hI hg) (by rw [hk];trivial) (by rw [hk];rfl)
    | holds S =>
     rw [hk] at hs
     have:=fresh u w' (.of hI hg) (by rw [hk];exact hs) (by rw [hk];intro h;cases h) (by rw [hk];intro h;cases h)
     rw [hk] at this
     exact this
   obtain ⟨T,hr⟩:=hc w hpre hfacts
   unfold Oper.wp
   rw [ex,hr,Oper.upon_value]
   have:=fresh (.pointer (some ⟨w.heap.size,0,none⟩)) (w.alloc (.cells A T)) (.of hI ((Below.refl _ _).alloc (aF _) _)) (by rw [hk];exact ⟨_,rfl,hsz,Box.new _ _ _⟩) (by rw [hk];intro h;cases h) (fun _=>rfl)
   rw [hk] at this
   exact this
  rw [hw]
  simp only [bL,if_false]
  rw [<-hv]
  exact next w (.of hI (Below.refl _ _)) (by rw [hp];trivial) (by rw [hp];rfl)
theorem wp_region_grow {id:Nat} {Q:Exit -> Act -> World -> Prop} {a:Act} {w:World} {l:List Oper} (n:Nat) (Ss:(Nat -> Value) -> Nat -> Known) (hm:P.follows .mixedOrders=true) (hB:jJ l.toArray n=true) (hfirm:∀ ν j,firm XF j (Ss ν j)) (hS:∀ ν ν' k,(∀ q,depB l.toArray l.toArray.size k q=true -> ν q = ν' q) -> Ss ν k=Ss ν' k) (hX:∀ j b,XF j b -> b < w.heap.size) (hI:∀ w w',I w -> Below w.heap.size w w' -> I w') (hI0:I w) (hmB:∀ ν j B mk A,Ss ν j = .made B mk A -> w.heap.size <= B)
  (h:∀ ν,Grow XF I P l.toArray w Ss ν (wpList P l.toArray Q (l.drop n)) (l.take n) 0 a):(Code.region id l.toArray true).wp P Q a w:=by
 have hB':=hB
 simp only [jJ,aN,bQ,decide_eq_true_eq,beq_iff_eq] at hB
 obtain ⟨⟨⟨⟨⟨hsel,hn⟩,hed⟩,ht⟩,hsc⟩,hseq⟩:=hB
 have hn' : n <= l.length:=by simpa using hn
 have hall:∀ ν, ∃ vals,Told XF I P l.toArray n w Ss (wpList P l.toArray Q (l.drop n)) a ν vals:=fun ν =>
  oF ht (fun j hj=>by
   have hj' : j < n:=by simp at hj;omega
   simp [hj']) (by simp;omega) (h ν)
 obtain ⟨vals,htold⟩:=hall fun _=>undef
 refine wp_region_any hm ?_
 have inv0:HeadInv .any l.toArray n (Array.replicate l.toArray.size false) :=
  ⟨by simp,fun j oj _ hl=>(by rw [getD_replicate_false] at hl;cases hl),fun t _ ht=>getD_in (by simpa using ht) (getD_replicate_false _ _)⟩
 have hc:∀ m,m <= l.toArray.size -> cnt (Array.replicate l.toArray.size false) m=m:=by
  intro m
  induction m with
  | zero=>intro _;rfl
  | succ m ih =>
   intro hm
   have:(Array.replicate l.toArray.size false).getD m true=false:=getD_in (by simp at hm ⊢;omega) (getD_replicate_false _ _)
   simp only [cnt]
   rw [ih (by omega),this]
   simp
 have:=mN (P:=P) (Q:=Q) (tail:=l.drop n) hB' hfirm hS hX hI hmB (fun j=>by simp [cH]) hall n (Array.replicate l.toArray.size false) a w.drew _ vals inv0 (hc n hn) htold
  ⟨Off.of_below (Below.refl w.heap.size w).drew _,hI _ _ hI0 (Below.refl w.heap.size w).drew⟩ (fun _ _=>Off.of_below (Below.refl w.heap.size w).drew _) (fun j hl=>by rw [getD_replicate_false] at hl;cases hl) (fun j _ hl=>by rw [getD_replicate_false] at hl;cases hl) (fun i j _ hl=>by rw [getD_replicate_false] at hl;cases hl) (Fr.start fun j _ hl=>by rw [getD_replicate_false] at hl;cases hl)
 rw [show n+(l.toArray.size - n)=l.toArray.size by omega] at this
 exact this
end
end Four
end Go.Proofs.YtcmflfkpeodicaaGreat
