/- Part 2. -/
import Derived.Test.YtcmflfkpeodicaaGreatIRA1
import Derived.StillTail
namespace Go.Proofs.YtcmflfkpeodicaaGreat
set_option linter.all false
open Go Go.RowKit
structure Box (W:World) (b:Nat) (A:Array Value):Prop where
 lt:b < W.heap.size
 cell:∀ o,W.cell? ⟨b,o,none⟩=A[o]?
 free:∀ o,W.frozen? ⟨b,o,none⟩=false
theorem Box.new (w:World) (A:Array Value) (t:TypeId):Box (w.alloc (.cells A t)) w.heap.size A:=by
 refine ⟨by simp,fun o => ?_,fun o => ?_⟩
 ·simp only [World.cell?];rw [show (w.alloc (.cells A t)).heap[w.heap.size]? = some (.cells A t) from by show (w.heap.push _)[w.heap.size]? = _;simp];simp
 simp only [World.frozen?];rw [show (w.alloc (.cells A t)).heap[w.heap.size]? = some (.cells A t) from by show (w.heap.push _)[w.heap.size]? = _;simp];simp
theorem Box.later {W W' : World} {b:Nat} {A:Array Value} (h:Box W b A) (hb:Below W.heap.size W W'):Box W' b A :=
 ⟨aL h.lt hb.size,fun o=>(hb.cell (p:=⟨b,o,none⟩) h.lt).trans (h.cell o),fun o=>(hb.frozen (p:=⟨b,o,none⟩) h.lt).trans (h.free o)⟩
theorem Box.alloc {W:World} {b:Nat} {A:Array Value} (h:Box W b A) (o:Obj):Box (W.alloc o) b A:=h.later ((Below.refl _ _).alloc (aF _) o)
theorem Box.drew {W:World} {b:Nat} {A:Array Value} (h:Box W b A):Box W.drew b A:=h.later (Below.refl _ _).drew
theorem Box.other {W:World} {b:Nat} {A:Array Value} (h:Box W b A) {p:Addr} (v:Value) (hp:b ≠ p.block):Box (W.setCell p v) b A:=by
 have hh:=Below.heap_setCell W p v b hp
 exact ⟨by simpa [World.setCell] using h.lt,fun o=>(World.cell?_of_block (w:=W) (a:=⟨b,o,none⟩) hh).trans (h.cell o),fun o=>(World.frozen?_of_block (w:=W) (a:=⟨b,o,none⟩) hh).trans (h.free o)⟩
theorem Box.set {W:World} {b:Nat} {A:Array Value} (h:Box W b A) (i:Nat) (v:Value):Box (W.setCell ⟨b,i,none⟩ v) b (A.setIfInBounds i v):=by
 have hlt:=h.lt
 have e:∃ c e f,W.heap[b]? = some (.cells c e f) \/ ∀ o,W.cell? ⟨b,o,none⟩=none:=by
  cases hx:W.heap[b]? with
  | none=>exact ⟨#[],0,(0,0),.inr fun o=>by simp [World.cell?,hx]⟩
  | some x =>
   cases x with
   | cells c e f=>exact ⟨c,e,f,.inl rfl⟩
   | _=>exact ⟨#[],0,(0,0),.inr fun o=>by simp [World.cell?,hx]⟩
 obtain ⟨c,e,f,hx | hno⟩:=e
 ·have hc:∀ o,c[o]? = A[o]?:=fun o=>by have:=h.cell o;simpa [World.cell?,hx] using this
  have hf:∀ o,W.frozen? ⟨b,o,none⟩=false:=h.free
  refine ⟨by simpa [World.setCell] using hlt,fun o => ?_,fun o => ?_⟩
  ·simp only [World.cell?,World.setCell,cW,hx]
   simp only [if_true,cS,Option.isSome_none,bL,if_false]
   by_cases hio:i=o
   ·subst hio
    by_cases hs:i < c.size
    ·have hs' : i < A.size:=by
      have:=hc i
      rw [bC hs] at this
      exact (aS.1 this.symm).1
     simp [hs,hs']
    have hs' : ¬ i < A.size:=by
     have:=hc i
     rw [bA (by omega)] at this
     have:=cA.1 this.symm
     omega
    simp [hs,hs',bA]
   simp only [dN hio]
   exact hc o
  have:=hf o
  simp only [World.frozen?,World.setCell,cW,hx] at this ⊢
  simpa using this
 have hA:A = #[]:=by
  apply dF
  intro o
  rw [<-h.cell o,hno o];simp
 subst hA
 have hcell:∀ o,(W.setCell ⟨b,i,none⟩ v).cell? ⟨b,o,none⟩=none:=fun o=>by
  have:=hno o
  simp only [World.cell?,World.setCell,cW,if_true] at this ⊢
  cases hx:W.heap[b]? with
  | none=>simp
  | some x =>
   rw [hx] at this
   cases x with
   | cells c e f =>
    simp at this
    simp
    have hall:∀ o,c.size <= o:=fun o=>by
     have:=hno o
     simp only [World.cell?,hx] at this
     simpa using this
    have:=hall 0
    omega
   | _=>simp
 refine ⟨by simpa [World.setCell] using hlt,fun o=>by simpa using hcell o,fun o => ?_⟩
 have:=h.free o
 simp only [World.frozen?,World.setCell,cW,if_true] at this ⊢
 cases hx:W.heap[b]? with
 | none=>simp
 | some x =>
  rw [hx] at this
  cases x with
  | cells c e f=>simpa using this
  | _=>simp
def Only (a:Nat) (W W' : World):Prop:=W'.heap.size=W.heap.size/\(∀ {b:Nat} {A:Array Value},Box W b A -> b ≠ a -> Box W' b A) /\ ∀ {B:Nat} {w:World},Below B w W -> B <= a -> Below B w W'
theorem Only.set (W:World) (a i:Nat) (v:Value):Only a W (W.setCell ⟨a,i,none⟩ v):=⟨by simp [World.setCell],fun h hn=>h.other _ hn,fun h ha=>h.setCell ha _⟩
theorem Only.put {a:Nat} {W W' : World} (h:Only a W W') (i:Nat) (v:Value):Only a W (W'.setCell ⟨a,i,none⟩ v):=⟨by have:=h.1;simpa [World.setCell] using this,fun k hn=>(h.2.1 k hn).other _ hn,fun k ha=>(h.2.2 k ha).setCell ha _⟩
theorem Box.only {a b:Nat} {W W' : World} {A:Array Value} (h:Box W b A) (ho:Only a W W') (hn:b ≠ a):Box W' b A:=ho.2.1 h hn
theorem Box.to {W:World} {b:Nat} {A A' : Array Value} (h:Box W b A) (e:A=A'):Box W b A':=e ▸ h
theorem Box.at {W:World} {b:Nat} {A:Array Value} (h:Box W b A) (o:Nat) {v:Value} (hv:A[o]? = some v):W.cell? ⟨b,o,none⟩=some v:=(h.cell o).trans hv
inductive Known where
 | plain
 | const (v:Value)
 | holds (S:Value -> World -> Prop)
 | made (B:Nat) (mk:Nat -> Value) (A:Array Value)
def Known.fact:Known -> Value -> World -> Prop
 | .holds S,u,w=>S u w
 | .made B _ A,u,w => ∃ b,u = .pointer (some ⟨b,0,none⟩)/\B <= b/\Box w b A
 | _,_,_=>True
def Known.val:Known -> Value -> Value
 | .const v,_=>v
 | .made _ mk _,u=>match u with | .pointer (some a)=>mk a.block | _=>undef
 | _,u=>u
def Known.spec:Known -> Value -> World -> Prop
 | .plain,_,_=>False
 | .const v,u,_=>u=v
 | .holds S,u,w=>S u w
 | .made _ _ _,_,_=>False
def Known.isMade:Known -> Bool | .made _ _ _=>true | _=>false
def Known.lasts (k:Known):Prop:=match k with
 | .holds S => ∀ u w1 w2,S u w1 -> Below w1.heap.size w1 w2 -> S u w2
 | _=>True
def gZ (ops:Array Oper) (k j:Nat):Bool:=match ops[k]? with
 | some o=>o.after.any fun e=>Region.binds .any e && e.on == j
 | none=>false
def depB (ops:Array Oper):Nat -> Nat -> Nat -> Bool
 | 0,_,_=>false
 | f+1,k,j=>match ops[k]? with
  | some o=>o.after.any fun e=>Region.binds .any e && (e.on == j || depB ops f e.on j)
  | none=>false
def lE (ops:Array Oper) (n:Nat):Bool :=
 (List.range n).all fun k=>(List.range n).all fun j=>match ops[k]?,ops[j]? with
  | some ok,some oj=>(match oj.dst with
   | some d=>(!(ok.looksAt ops).contains d || (decide (j < k) && gZ ops k j)) && (j == k || ok.dst != some d)
   | none=>true)
  | _,_=>true
theorem fT {ops:Array Oper} {k j:Nat} (h:gZ ops k j=true):∃ o,ops[k]? = some o /\ ∃ e ∈ o.after,Region.binds .any e=true/\e.on=j:=by
 unfold gZ at h
 split at h
 ·rename_i o ho
  obtain ⟨e,he,hb⟩:=Array.any_eq_true'.1 h
  simp only [aN,beq_iff_eq] at hb
  exact ⟨o,ho,e,he,hb.1,hb.2⟩
 cases h
section
variable {P:Program} {ops:Array Oper}
def Oper.yields (P:Program) (o:Oper) (a:Act) (w:World) (v:Value):Prop :=
 ∃ w',((execOp a.eval o).run P w = .ok (.value v) w' \/ ((execOp a.eval o).run P w = .ok .skip w' /\ v=undef))/\Below w.heap.size w w'
def Oper.callsTo (P:Program) (o:Oper) (a:Act) (w:World) (S:Value -> World -> Prop):Prop :=
 ∃ f args,(execOp a.eval o).run P w = .ok (.enter f args) w/\Calls P f args w fun e w' => ∃ u,e = .returned u/\S u w' /\ Below w.heap.size w w'
def Oper.makes (P:Program) (o:Oper) (a:Act) (w:World) (mk:Nat -> Value) (A:Array Value):Prop :=
 ∃ T,(execOp a.eval o).run P w = .ok (.value (mk w.heap.size)) (w.alloc (.cells A T))
def tL (Ss:Nat -> Known) (ν : Nat -> Value) (k:Nat):Prop := ∀ i j,i < k -> j < k -> i ≠ j -> (Ss i).isMade=true -> (Ss j).isMade=true -> ν i ≠ ν j
def jB (ops:Array Oper) (Ss:Nat -> Known) (ν : Nat -> Value) (k:Nat) (w:World):Prop := ∀ j,depB ops ops.size k j=true -> (Ss j).fact (ν j) w
def Grow (P:Program) (ops:Array Oper) (w0:World) (Ss:Nat -> Known) (ν : Nat -> Value) (L:Act -> World -> Prop):List Oper -> Nat -> Act -> Prop
 | [],k,a => ∀ w',Below w0.heap.size w0 w' -> (∀ j,j < k -> (Ss j).fact (ν j) w') -> tL Ss ν k -> L a w'
 | o :: rest,k,a =>
  if Region.wanted o (yielded ops a.tmps) then
   (Ss k = .plain /\ ∃ v,(∀ w',Below w0.heap.size w0 w' -> jB ops Ss ν k w' -> Oper.yields P o a w' v)/\Grow P ops w0 Ss ν L rest (k+1) (a.put o.dst v)) \/
   ((∀ w',Below w0.heap.size w0 w' -> jB ops Ss ν k w' -> Oper.callsTo P o a w' (Ss k).spec)/\Grow P ops w0 Ss ν L rest (k+1) (a.put o.dst ((Ss k).val (ν k)))) \/
   (∃ mk A,Ss k = .made w0.heap.size mk A/\(∀ w',Below w0.heap.size w0 w' -> jB ops Ss ν k w' -> Oper.makes P o a w' mk A)/\Grow P ops w0 Ss ν L rest (k+1) (a.put o.dst ((Ss k).val (ν k))))
  else Ss k = .plain/\Grow P ops w0 Ss ν L rest (k+1) (a.put o.dst undef)
theorem Grow.val {w0:World} {Ss:Nat -> Known} {ν : Nat -> Value} {L:Act -> World -> Prop} {o:Oper} {rest:List Oper} {k:Nat} {a:Act} {v:Value} (hg:Region.wanted o (yielded ops a.tmps)=true) (hk:Ss k = .plain)
  (hy:∀ w',Below w0.heap.size w0 w' -> jB ops Ss ν k w' -> (execOp a.eval o).run P w' = .ok (.value v) w') (h:Grow P ops w0 Ss ν L rest (k+1) (a.put o.dst v)):Grow P ops w0 Ss ν L (o :: rest) k a:=by
 simp only [Grow,hg,if_true]
 exact .inl ⟨hk,v,fun w' h1 h2=>⟨w',.inl (hy w' h1 h2),Below.refl _ _⟩,h⟩
theorem Grow.call {w0:World} {Ss:Nat -> Known} {ν : Nat -> Value} {L:Act -> World -> Prop} {o:Oper} {rest:List Oper} {k:Nat} {a:Act} {f:FuncId} {args:Array Value} (hg:Region.wanted o (yielded ops a.tmps)=true)
  (hrun:∀ w' : World,(execOp a.eval o).run P w' = .ok (.enter f args) w')
  (hy:∀ w',Below w0.heap.size w0 w' -> jB ops Ss ν k w' -> Calls P f args w' fun e w'' => ∃ u,e = .returned u/\(Ss k).spec u w'' /\ Below w'.heap.size w' w'')
  (h:Grow P ops w0 Ss ν L rest (k+1) (a.put o.dst ((Ss k).val (ν k)))):Grow P ops w0 Ss ν L (o :: rest) k a:=by
 simp only [Grow,hg,if_true]
 exact .inr (.inl ⟨fun w' h1 h2=>⟨f,args,hrun w',hy w' h1 h2⟩,h⟩)
theorem Grow.made {w0:World} {Ss:Nat -> Known} {ν : Nat -> Value} {L:Act -> World -> Prop} {o:Oper} {rest:List Oper} {k:Nat} {a:Act} {mk:Nat -> Value} {A:Array Value} {T:TypeId} (hg:Region.wanted o (yielded ops a.tmps)=true) (hk:Ss k = .made w0.heap.size mk A)
  (hy:∀ w',Below w0.heap.size w0 w' -> jB ops Ss ν k w' -> (execOp a.eval o).run P w' = .ok (.value (mk w'.heap.size)) (w'.alloc (.cells A T))) (h:Grow P ops w0 Ss ν L rest (k+1) (a.put o.dst ((Ss k).val (ν k)))):Grow P ops w0 Ss ν L (o :: rest) k a:=by
 simp only [Grow,hg,if_true]
 exact .inr (.inr ⟨mk,A,hk,fun w' h1 h2=>⟨T,hy w' h1 h2⟩,h⟩)
theorem Grow.skip {w0:World} {Ss:Nat -> Known} {ν : Nat -> Value} {L:Act -> World -> Prop} {o:Oper} {rest:List Oper} {k:Nat} {a:Act} (hg:Region.wanted o (yielded ops a.tmps)=false) (hk:Ss k = .plain)
  (h:Grow P ops w0 Ss ν L rest (k+1) (a.put o.dst undef)):Grow P ops w0 Ss ν L (o :: rest) k a:=by
 simp only [Grow,hg,bL,if_false]
 exact ⟨hk,h⟩
def jP (P:Program) (ops:Array Oper) (w0:World) (Ss:Nat -> Known) (ν : Nat -> Value) (o:Oper) (k:Nat) (a:Act) (v:Value):Prop :=
 (Region.wanted o (yielded ops a.tmps)=true/\Ss k = .plain /\ ∀ w',Below w0.heap.size w0 w' -> jB ops Ss ν k w' -> Oper.yields P o a w' v) \/
 (Region.wanted o (yielded ops a.tmps)=true/\v=(Ss k).val (ν k)/\((∀ w',Below w0.heap.size w0 w' -> jB ops Ss ν k w' -> Oper.callsTo P o a w' (Ss k).spec) \/
  ∃ mk A,Ss k = .made w0.heap.size mk A /\ ∀ w',Below w0.heap.size w0 w' -> jB ops Ss ν k w' -> Oper.makes P o a w' mk A)) \/
 (Region.wanted o (yielded ops a.tmps)=false/\Ss k = .plain/\v=undef)
structure Fr (ops:Array Oper) (n:Nat) (a0:Act) (vals:Nat -> Value) (L:Nat -> Prop) (a:Act):Prop where
 size:a.tmps.size=a0.tmps.size
 defers:a.defers=a0.defers
 has:∀ j o d,ops[j]? = some o -> j < n -> L j -> o.dst=some d -> d < a0.tmps.size -> a.tmps[d]? = some (vals j)
 keep:∀ d,(∀ j o,ops[j]? = some o -> j < n -> L j -> o.dst ≠ some d) -> a.tmps[d]? = a0.tmps[d]?
theorem Fr.start {n:Nat} {a0:Act} {vals:Nat -> Value} {L:Nat -> Prop} (h:∀ j,j < n -> ¬ L j):Fr ops n a0 vals L a0 :=
 ⟨rfl,rfl,fun j o d _ hj hl=>absurd hl (h j hj),fun d _=>rfl⟩
theorem aB6 {n:Nat} (ht:lE ops n=true) {k j:Nat} {ok oj:Oper} {d:Tmp} (hk:ops[k]? = some ok) (hj:ops[j]? = some oj) (hkn:k < n) (hjn:j < n) (hne:j ≠ k) (hd:oj.dst=some d):ok.dst ≠ some d:=by
 have h:=aZ.1 (aZ.1 ht k (cO.2 hkn)) j (cO.2 hjn)
 simp only [hk,hj,hd,aN,bQ,beq_iff_eq,bne_iff_ne] at h
 exact h.2.resolve_left hne
theorem aAF {n:Nat} (ht:lE ops n=true) {k j:Nat} {ok oj:Oper} {d:Tmp} (hk:ops[k]? = some ok) (hj:ops[j]? = some oj) (hkn:k < n) (hjn:j < n) (hd:oj.dst=some d) (hl:d ∈ ok.looksAt ops):j < k/\gZ ops k j=true:=by
 have h:=aZ.1 (aZ.1 ht k (cO.2 hkn)) j (cO.2 hjn)
 simp only [hk,hj,hd,aN,bQ,eA,decide_eq_true_eq] at h
 rcases h.1 with h1 | h1
 ·have:(ok.looksAt ops).contains d=true:=dX.2 hl
  rw [this] at h1;cases h1
 exact h1
theorem Fr.put {n:Nat} {a0 a:Act} {vals:Nat -> Value} {L:Nat -> Prop} (ht:lE ops n=true) (h:Fr ops n a0 vals L a) {k:Nat} {o:Oper} (ho:ops[k]? = some o) (hk:k < n) :
  Fr ops n a0 vals (fun j=>j=k \/ L j) (a.put o.dst (vals k)):=by
 cases hd:o.dst with
 | none =>
  refine ⟨h.size,h.defers,fun j oj d hj hjn hl hdj hlt => ?_,fun d hno=>h.keep d fun j oj hj hjn hl=>hno j oj hj hjn (.inr hl)⟩
  rcases hl with rfl | hl
  ·rw [ho] at hj;cases hj;rw [hd] at hdj;cases hdj
  exact h.has j oj d hj hjn hl hdj hlt
 | some d0 =>
  refine ⟨by simp [Act.put,h.size],h.defers,fun j oj d hj hjn hl hdj hlt => ?_,fun d hno => ?_⟩
  ·by_cases hjk:j=k
   ·subst hjk
    rw [ho] at hj;cases hj;rw [hd] at hdj;cases hdj
    simp [Act.put,h.size,hlt]
   have hne:d0 ≠ d:=fun e=>aB6 ht hj ho hjn hk (fun e=>hjk e.symm) hd (e ▸ hdj)
   simp only [Act.put,dN hne]
   exact h.has j oj d hj hjn (hl.resolve_left hjk) hdj hlt
  have hne:d0 ≠ d:=fun e=>hno k o ho hk (.inl rfl) (by rw [hd,e])
  simp only [Act.put,dN hne]
  exact h.keep d fun j oj hj hjn hl=>hno j oj hj hjn (.inr hl)
theorem Fr.eq {n:Nat} {a0 a b:Act} {vals:Nat -> Value} {L L' : Nat -> Prop} (h:Fr ops n a0 vals L a) (h' : Fr ops n a0 vals L' b) (hL:∀ j,j < n -> (L j ↔ L' j)):a=b:=by
 have e1:a.tmps=b.tmps:=by
  apply dF
  intro t
  by_cases hex:∃ j o,ops[j]? = some o/\j < n/\L j/\o.dst=some t
  ·obtain ⟨j,o,hj,hjn,hl,hd⟩:=hex
   by_cases hlt:t < a0.tmps.size
   ·rw [h.has j o t hj hjn hl hd hlt,h'.has j o t hj hjn ((hL j hjn).1 hl) hd hlt]
   rw [bA (by rw [h.size];omega),bA (by rw [h'.size];omega)]
  rw [h.keep t fun j o hj hjn hl hd=>hex ⟨j,o,hj,hjn,hl,hd⟩,h'.keep t fun j o hj hjn hl hd=>hex ⟨j,o,hj,hjn,(hL j hjn).2 hl,hd⟩]
 have e2:a.defers=b.defers:=h.defers.trans h'.defers.symm
 cases a;cases b;simp only at e1 e2;rw [e1,e2]
theorem Fr.same {n:Nat} {a0 a b:Act} {va vb:Nat -> Value} {L L' : Nat -> Prop} (ht:lE ops n=true) (h:Fr ops n a0 va L a) (h' : Fr ops n a0 vb L' b) {k:Nat} {o:Oper} (ho:ops[k]? = some o) (hk:k < n)
  (hin:∀ j,j < n -> gZ ops k j=true -> j < k -> L j/\L' j/\va j=vb j) (d:Nat) (hd:d ∈ o.looksAt ops):a.tmps[d]? = b.tmps[d]?:=by
 by_cases hex:∃ j oj,ops[j]? = some oj/\j < n/\oj.dst=some d
 ·obtain ⟨j,oj,hj,hjn,hdj⟩:=hex
  obtain ⟨hlt,he⟩:=aAF ht ho hj hk hjn hdj hd
  obtain ⟨l1,l2,ev⟩:=hin j hjn he hlt
  by_cases hs:d < a0.tmps.size
  ·rw [h.has j oj d hj hjn l1 hdj hs,h'.has j oj d hj hjn l2 hdj hs,ev]
  rw [bA (by rw [h.size];omega),bA (by rw [h'.size];omega)]
 ·rw [h.keep d fun j oj hj hjn _ hdj=>hex ⟨j,oj,hj,hjn,hdj⟩,h'.keep d fun j oj hj hjn _ hdj=>hex ⟨j,oj,hj,hjn,hdj⟩]
theorem iN {a b:Act} {o:Oper} (hs:∀ cs b,o.op ≠ .select cs b) (h:∀ d,d ∈ o.looksAt ops -> a.tmps[d]? = b.tmps[d]?) :
  execOp a.eval o=execOp b.eval o/\Region.wanted o (yielded ops a.tmps)=Region.wanted o (yielded ops b.tmps):=by
 constructor
 ·refine execOp_congr o hs fun x hx => ?_
  cases x with
  | tmp t =>
   have:=h t (List.mem_append_left _ (List.mem_filterMap.2 ⟨.tmp t,by simpa using hx,rfl⟩))
   simp only [Act.eval,bI,this]
  | _=>rfl
 ·unfold Region.wanted
  cases hg:o.guard with
  | none=>rfl
  | some gw =>
   obtain ⟨g,want⟩:=gw
   have:yielded ops a.tmps g=yielded ops b.tmps g:=by
    unfold yielded
    cases ht:(ops[g]?).bind (·.dst) with
    | none=>rfl
    | some t =>
     have:=h t (List.mem_append_right _ (by simp only [hg,ht];simp))
     simp [this]
   simp only [this]
theorem Fr.congr {n:Nat} {a0 a:Act} {va vb:Nat -> Value} {L L' : Nat -> Prop} (h:Fr ops n a0 va L a) (hv:∀ j,j < n -> L j -> va j=vb j) (hL:∀ j,j < n -> (L j ↔ L' j)):Fr ops n a0 vb L' a :=
 ⟨h.size,h.defers,fun j o d hj hjn hl hd hlt=>by rw [<-hv j hjn ((hL j hjn).2 hl)];exact h.has j o d hj hjn ((hL j hjn).2 hl) hd hlt,
  fun d hno=>h.keep d fun j o hj hjn hl=>hno j o hj hjn ((hL j hjn).1 hl)⟩
structure Told (P:Program) (ops:Array Oper) (n:Nat) (w0:World) (Ss:Nat -> Known) (L:Act -> World -> Prop) (a0:Act) (ν vals:Nat -> Value):Prop where
 step:∀ k o,ops[k]? = some o -> k < n -> ∃ b,Fr ops n a0 vals (· < k) b/\jP P ops w0 Ss ν o k b (vals k)
 done:∃ b,Fr ops n a0 vals (· < n) b /\ ∀ w',Below w0.heap.size w0 w' -> (∀ j,j < n -> (Ss j).fact (ν j) w') -> tL Ss ν n -> L b w'
theorem jG {n:Nat} {w0:World} {Ss:Nat -> Known} {L:Act -> World -> Prop} {a0:Act} {ν : Nat -> Value} (ht:lE ops n=true) :
  ∀ (l:List Oper) (k:Nat) (a:Act) (v0:Nat -> Value),(∀ j,j < l.length -> ops[k+j]? = l[j]?) -> k+l.length=n -> Fr ops n a0 v0 (· < k) a -> Grow P ops w0 Ss ν L l k a ->
   ∃ vals:Nat -> Value,(∀ j,j < k -> vals j=v0 j)/\(∀ j o,ops[j]? = some o -> k <= j -> j < n -> ∃ b,Fr ops n a0 vals (· < j) b/\jP P ops w0 Ss ν o j b (vals j)) /\
    ∃ b,Fr ops n a0 vals (· < n) b /\ ∀ w',Below w0.heap.size w0 w' -> (∀ j,j < n -> (Ss j).fact (ν j) w') -> tL Ss ν n -> L b w'
 | [],k,a,v0,_,hk,hf,h=>by
  have hk' : k=n:=by simpa using hk
  subst hk'
  exact ⟨v0,fun _ _=>rfl,fun j o _ h1 h2=>by omega,a,hf,h⟩
 | o :: rest,k,a,v0,hl,hk,hf,h=>by
  simp only [bB] at hk
  have ho:ops[k]? = some o:=by simpa using hl 0 (by simp)
  have hl' : ∀ j,j < rest.length -> ops[k+1+j]? = rest[j]?:=fun j hj=>by
   have:=hl (j+1) (by simp;omega)
   simpa [Nat.add_assoc,Nat.add_comm 1 j] using this
  have key:∃ v,jP P ops w0 Ss ν o k a v/\Grow P ops w0 Ss ν L rest (k+1) (a.put o.dst v):=by
   simp only [Grow] at h
   by_cases hw:Region.wanted o (yielded ops a.tmps)=true
   ·simp only [hw,if_true] at h
    rcases h with ⟨h1,v,h2,h3⟩ | ⟨h2,h3⟩ | ⟨mk,A,h1,h2,h3⟩
    ·exact ⟨v,.inl ⟨hw,h1,h2⟩,h3⟩
    ·exact ⟨_,.inr (.inl ⟨hw,rfl,.inl h2⟩),h3⟩
    exact ⟨_,.inr (.inl ⟨hw,rfl,.inr ⟨mk,A,h1,h2⟩⟩),h3⟩
   simp only [dI] at hw
   simp only [hw,bL,if_false] at h
   exact ⟨undef,.inr (.inr ⟨hw,h.1,rfl⟩),h.2⟩
  obtain ⟨v,hs,hg⟩:=key
  let v1:Nat -> Value:=fun j=>if j=k then v else v0 j
  have e1:∀ j,j < k -> v1 j=v0 j:=fun j hj=>by simp only [v1];rw [if_neg (by omega)]
  have ek:v1 k=v:=by simp [v1]
  have hf1:Fr ops n a0 v1 (· < k) a:=hf.congr (fun j _ hj=>(e1 j hj).symm) (fun _ _=>Iff.rfl)
  have hf2:=hf1.put ht ho (by omega)
  rw [ek] at hf2
  have hf3:Fr ops n a0 v1 (· < k+1) (a.put o.dst v):=hf2.congr (fun _ _ _=>rfl) (fun j _=>by omega)
  obtain ⟨vals,hv,hst,hd⟩:=jG ht rest (k+1) _ v1 hl' (by omega) hf3 hg
  refine ⟨vals,fun j hj=>(hv j (by omega)).trans (e1 j hj),fun j oj hj hkj hjn => ?_,hd⟩
  by_cases hjk:j=k
  ·subst hjk
   rw [ho] at hj
   cases hj
   refine ⟨a,hf1.congr (fun i _ hi=>(hv i (by omega)).symm) (fun _ _=>Iff.rfl), ?_⟩
   rw [hv j (by omega),ek]
   exact hs
  exact hst j oj hj (by omega) hjn
theorem oF {n:Nat} {w0:World} {Ss:Nat -> Known} {L:Act -> World -> Prop} {a0:Act} {ν : Nat -> Value} {l:List Oper} (ht:lE ops n=true) (hl:∀ j,j < l.length -> ops[j]? = l[j]?) (hn:l.length=n)
  (h:Grow P ops w0 Ss ν L l 0 a0):∃ vals,Told P ops n w0 Ss L a0 ν vals:=by
 obtain ⟨vals,_,h1,h2⟩:=jG ht l 0 a0 (fun _=>undef) (fun j hj=>by rw [bH];exact hl j hj) (by omega) (Fr.start fun j _ hj=>by omega) h
 exact ⟨vals,fun k o hk hkn=>h1 k o hk (by omega) hkn,h2⟩
theorem fU {listed:Array Bool} {md:Region.Mode} (hmd:md = .any) (hc:∀ j oj,ops[j]? = some oj -> listed.getD j false=true -> ∀ e ∈ oj.after,Region.binds md e=true -> listed.getD e.on false=true) :
  ∀ (f k j:Nat),(∀ o,ops[k]? = some o -> ∀ e ∈ o.after,Region.binds md e=true -> listed.getD e.on false=true) -> depB ops f k j=true -> listed.getD j false=true
 | 0,_,_,_,h=>by simp [depB] at h
 | f+1,k,j,hk,h=>by
  subst hmd
  unfold depB at h
  split at h
  ·rename_i o ho
   obtain ⟨e,he,hb⟩:=Array.any_eq_true'.1 h
   simp only [aN,bQ,beq_iff_eq] at hb
   have hle:=hk o ho e he hb.1
   rcases hb.2 with rfl | hb2
   ·exact hle
   exact fU rfl hc f e.on j (fun o' ho'=>hc e.on o' ho' hle) hb2
  cases h
theorem lA {n:Nat} {w0 w' : World} {Ss:Nat -> Known} {L L' : Act -> World -> Prop} {a0:Act} {ν ν' vals vals' : Nat -> Value} {listed:Array Bool} (ht:lE ops n=true) (hsel:Region.noSelect ops=true) (hn:n <= ops.size)
  (hc:∀ j oj,ops[j]? = some oj -> listed.getD j false=true -> ∀ e ∈ oj.after,Region.binds .any e=true -> listed.getD e.on false=true)
  (h:Told P ops n w0 Ss L a0 ν vals) (h' : Told P ops n w0 Ss L' a0 ν' vals') (hb:Below w0.heap.size w0 w') (hf:∀ j,listed.getD j false=true -> (Ss j).fact (ν j) w')
  (hν : ∀ j,listed.getD j false=true -> ν j = ν' j):∀ (j:Nat),j < n -> listed.getD j false=true -> vals j=vals' j:=by
 intro j
 induction j using Nat.strongRecOn with
 | _ j ih =>
  intro hjn hlj
  cases ho:ops[j]? with
  | none =>
   have:=(cA.1 ho)
   omega
  | some o =>
   obtain ⟨b,hb1,hs⟩:=h.step j o ho hjn
   obtain ⟨b',hb2,hs'⟩:=h'.step j o ho hjn
   have hin:∀ i,i < n -> gZ ops j i=true -> i < j -> i < j/\i < j/\vals i=vals' i:=fun i hi he hij=>by
    obtain ⟨oj,hoj,e,hem,hbi,hon⟩:=fT he
    refine ⟨hij,hij,ih i hij hi ?_⟩
    rw [<-hon]
    exact hc j oj hoj hlj e hem hbi
   obtain ⟨ex,ew⟩:=iN (ops:=ops) (o:=o) (fun cs b=>Region.noSelect_spec hsel j o cs b ho) (fun d hd=>Fr.same ht hb1 hb2 ho hjn hin d hd)
   have hdep:∀ i,depB ops ops.size j i=true -> listed.getD i false=true:=fun i hi =>
    fU rfl hc ops.size j i (fun o' ho'=>hc j o' ho' hlj) hi
   have F1:jB ops Ss ν j w':=fun i hi=>hf i (hdep i hi)
   have F2:jB ops Ss ν' j w':=fun i hi=>by rw [<-hν i (hdep i hi)];exact hf i (hdep i hi)
   rcases hs with ⟨w1,p1,y1⟩ | ⟨w1,e1,y1⟩ | ⟨w1,p1,e1⟩ <;> rcases hs' with ⟨w2,p2,y2⟩ | ⟨w2,e2,y2⟩ | ⟨w2,p2,e2⟩
   ·obtain ⟨x,r1,_⟩:=y1 w' hb F1
    obtain ⟨y,r2,_⟩:=y2 w' hb F2
    rw [<-ex] at r2
    rcases r1 with r1 | ⟨r1,q1⟩ <;> rcases r2 with r2 | ⟨r2,q2⟩ <;> rw [r1] at r2 <;> simp_all
   ·obtain ⟨x,r1,_⟩:=y1 w' hb F1
    rcases y2 with y2 | ⟨mk,A,hk,_⟩
    ·obtain ⟨f,args,r2,_⟩:=y2 w' hb F2
     rw [<-ex] at r2
     rcases r1 with r1 | ⟨r1,q1⟩ <;> rw [r1] at r2 <;> simp_all
    rw [p1] at hk;cases hk
   ·rw [ew,w2] at w1;cases w1
   ·obtain ⟨y,r2,_⟩:=y2 w' hb F2
    rcases y1 with y1 | ⟨mk,A,hk,_⟩
    ·obtain ⟨f,args,r1,_⟩:=y1 w' hb F1
     rw [<-ex] at r2
     rcases r2 with r2 | ⟨r2,q2⟩ <;> rw [r1] at r2 <;> simp_all
    rw [p2] at hk;cases hk
   ·rw [e1,e2,hν j hlj]
   ·rw [ew,w2] at w1;cases w1
   ·rw [ew,w2] at w1;cases w1
   ·rw [ew,w2] at w1;cases w1
   rw [e1,e2]
def rU (ops:Array Oper) (n:Nat):Bool:=(List.range n).all fun k=>match ops[k]? with
 | some o=>o.after.all fun e => !Region.binds .any e || decide (e.on < k)
 | none=>true
theorem iD {n k:Nat} (h:rU ops n=true) (hk:k < n) {o:Oper} (ho:ops[k]? = some o) {e:Edge} (he:e ∈ o.after) (hb:Region.binds .any e=true):e.on < k:=by
 have h1:=aZ.1 h k (cO.2 hk)
 simp only [ho] at h1
 have h2:=Array.all_eq_true_iff_forall_mem.1 h1 e he
 simpa [hb] using h2
def cnt (listed:Array Bool):Nat -> Nat
 | 0=>0
 | m+1=>cnt listed m+if listed.getD m true=true then 0 else 1
theorem mH {listed:Array Bool} {i:Nat} (hi:i < listed.size) (hu:listed.getD i true=false):∀ (m:Nat),(m <= i -> cnt (listed.setIfInBounds i true) m=cnt listed m)/\(i < m -> cnt (listed.setIfInBounds i true) m+1=cnt listed m)
 | 0=>⟨fun _=>rfl,fun h=>by omega⟩
 | m+1=>by
  obtain ⟨h1,h2⟩:=mH hi hu m
  refine ⟨fun h => ?_,fun h => ?_⟩
  ·simp only [cnt];rw [h1 (by omega),getD_set_ne true (by omega)]
  simp only [cnt]
  by_cases e:i=m
  ·subst e
   have:(listed.setIfInBounds i true).getD i true=true:=by simp [hi]
   rw [this,hu,h1 (aF _)];simp
  rw [getD_set_ne true e, <-h2 (by omega)];omega
theorem jI {listed:Array Bool}:∀ (m:Nat),cnt listed m=0 -> ∀ j,j < m -> listed.getD j true=true
 | 0,_,j,hj=>by omega
 | m+1,h,j,hj=>by
  simp only [cnt] at h
  by_cases e:j=m
  ·subst e
   by_cases hl:listed.getD j true=true
   ·exact hl
   rw [if_neg hl] at h;omega
  exact jI m (by omega) j (by omega)
theorem jR {listed:Array Bool}:∀ (m:Nat),0 < cnt listed m -> ∃ k,k < m/\listed.getD k true=false /\ ∀ j,j < k -> listed.getD j true=true
 | 0,h=>by simp [cnt] at h
 | m+1,h=>by
  by_cases h0:cnt listed m=0
  ·simp only [cnt,h0] at h
   refine ⟨m,by omega, ?_,jI m h0⟩
   by_cases hl:listed.getD m true=true
   ·rw [if_pos hl] at h;omega
   simpa using hl
  obtain ⟨k,h1,h2,h3⟩:=jR (listed:=listed) m (by omega)
  exact ⟨k,by omega,h2,h3⟩
def fP (s n:Nat):Array Bool:=((List.range s).map fun i=>decide (i < n)).toArray
def jJ (ops:Array Oper) (n:Nat):Bool :=
 Region.noSelect ops && decide (n <= ops.size) && rU ops n && lE ops n && (n == ops.size || (Region.sinkB .any ops n && Region.chainB .any ops n)) && Region.seqB .any ops (ops.size - n) n (fP ops.size n)
theorem fI {listed:Array Bool} {j:Nat} (h:listed.getD j true=true) (hj:j < listed.size):listed.getD j false=true:=by
 simp [hj] at h ⊢;exact h
theorem Below.more {B:Nat} {a b c:World} (h:Below B a b) (hB:B <= b.heap.size) (k:Below b.heap.size b c):Below B a c:=h.trans (k.mono hB)
set_option maxHeartbeats 1000000 in
theorem mN {n:Nat} {w0:World} {Ss:Nat -> Known} {Q:Exit -> Act -> World -> Prop} {tail:List Oper} {a0:Act} (hB:jJ ops n=true) (hlast:∀ k,(Ss k).lasts)
  (htail:∀ j,tail[j]? = ops[n+j]?) (hall:∀ ν, ∃ vals,Told P ops n w0 Ss (wpList P ops Q tail) a0 ν vals) :
  ∀ (m:Nat) (listed:Array Bool) (a:Act) (w:World) (ν vals:Nat -> Value),HeadInv .any ops n listed -> cnt listed n=m -> Told P ops n w0 Ss (wpList P ops Q tail) a0 ν vals ->
   Below w0.heap.size w0 w -> (∀ j,j < n -> listed.getD j false=true -> (Ss j).fact (ν j) w) -> (∀ i j,i ≠ j -> listed.getD i false=true -> listed.getD j false=true -> (Ss i).isMade=true -> (Ss j).isMade=true -> ν i ≠ ν j) -> Fr ops n a0 vals (fun j=>listed.getD j false=true) a -> wpAny P .any ops Q (m+(ops.size - n)) listed a w:=by
 simp only [jJ,aN,bQ,decide_eq_true_eq,beq_iff_eq] at hB
 obtain ⟨⟨⟨⟨⟨hsel,hn⟩,hed⟩,ht⟩,hsc⟩,hseq⟩:=hB
 intro m
 induction m with
 | zero =>
  intro listed a w ν vals inv hcnt htold hb hf hap hfr
  have hlen:tail.length=ops.size - n:=by
   apply dV
   ·by_cases hle:tail.length <= ops.size - n
    ·exact hle
    have h1:=htail (ops.size - n)
    rw [bA (by omega)] at h1
    have:=dD.1 h1
    omega
   by_cases hle:ops.size - n <= tail.length
   ·exact hle
   have h1:=htail tail.length
   rw [aW (aF _)] at h1
   have:=cA.1 h1.symm
   omega
  have hl:∀ j,j < n -> listed.getD j false=true:=fun j hj=>fI (jI n hcnt j hj) (by rw [inv.size];omega)
  have hlist:listed=fP ops.size n:=by
   apply dF
   intro j
   by_cases hj:j < ops.size
   ·have e2:(fP ops.size n)[j]? = some (decide (j < n)):=by simp [fP,hj]
    rw [e2]
    by_cases hjn:j < n
    ·have:=hl j hjn
     rw [bI] at this
     cases hx:listed[j]? with
     | none=>rw [hx] at this;cases this
     | some b=>rw [hx] at this;simp at this;rw [this,decide_eq_true hjn]
    have:=inv.tail j (by omega) hj
    rw [bI] at this
    cases hx:listed[j]? with
    | none=>rw [hx] at this;cases this
    | some b=>rw [hx] at this;simp at this;rw [this,decide_eq_false hjn]
   rw [bA (by rw [inv.size];omega),bA (by simp [fP];omega)]
  obtain ⟨b,hb1,hb2⟩:=htold.done
  have hab:a=b:=hfr.eq hb1 fun j hj=>⟨fun _=>hj,fun _=>hl j hj⟩
  subst hab
  have:=wpAny_of_seq (md:=.any) (Q':=Q) tail n listed a w htail (by rw [hlist,hlen];exact hseq) (hb2 w hb (fun j hj=>hf j hj (hl j hj)) (fun i j hi hj hne h1 h2=>hap i j hne (hl i hi) (hl j hj) h1 h2))
  rw [hlen] at this
  rw [bH]
  exact this
 | succ m ih =>
  intro listed a w ν vals inv hcnt htold hb hf hap hfr
  rw [show m+1+(ops.size - n)=(m+(ops.size - n))+1 by omega]
  obtain ⟨k0,hk0,hu0,hless⟩:=jR (listed:=listed) n (by omega)
  have hready0:k0 ∈ Region.ready .any ops listed:=by
   refine mem_ready.2 ⟨hu0,ops[k0],bC (by omega),fun e he hbi => ?_⟩
   have:=iD hed hk0 (bC (by omega)) he hbi
   exact fI (hless _ this) (by rw [inv.size];omega)
  refine ⟨fun h0=>(by rw [h0] at hready0;cases hready0),fun i hi => ?_⟩
  have hin:i < n:=by
   rcases dC i n with h | h
   ·exact h
   rcases hsc with h1 | h1
   ·obtain ⟨_,o,ho,_⟩:=mem_ready.1 hi
    have:=(aS.1 ho).1
    omega
   by_cases hns:n < ops.size
   ·exact absurd hi (tail_waits h1.1 h1.2 hns inv _ k0 rfl hk0 hu0 i h)
   obtain ⟨_,o,ho,_⟩:=mem_ready.1 hi
   have:=(aS.1 ho).1
   omega
  obtain ⟨hun,o,ho,hedge⟩:=mem_ready.1 hi
  have hinv':=inv.set hi hin
  have hcnt' : cnt (listed.setIfInBounds i true) n=m:=by
   have:=(mH (by rw [inv.size];omega) hun n).2 hin
   omega
  have hset:∀ j,(listed.setIfInBounds i true).getD j false=true ↔ (j=i \/ listed.getD j false=true):=fun j=>by
   by_cases e:i=j
   ·subst e
    have:i < listed.size:=by rw [inv.size];omega
    simp [this]
   rw [getD_set_ne false e]
   exact ⟨fun h=>.inr h,fun h=>h.resolve_left (fun e'=>e e'.symm)⟩
  obtain ⟨b,hfb,hstep⟩:=htold.step i o ho hin
  have hlook:∀ d,d ∈ o.looksAt ops -> a.tmps[d]? = b.tmps[d]?:=fun d hd=>Fr.same ht hfr hfb ho hin (fun j hj he hji=>by
   obtain ⟨oj,hoj,e,hem,hbi,hon⟩:=fT he
   rw [ho] at hoj
   cases hoj
   exact ⟨by rw [<-hon];exact hedge e hem hbi,hji,rfl⟩) d hd
  obtain ⟨ex,ew⟩:=iN (ops:=ops) (o:=o) (fun cs b=>Region.noSelect_spec hsel i o cs b ho) hlook
  have hdep:∀ j,depB ops ops.size i j=true -> listed.getD j false=true:=fun j hj =>
   fU rfl inv.closed ops.size i j (fun o' ho'=>by rw [ho] at ho';cases ho';exact hedge) hj
  have hsmall:∀ j,listed.getD j false=true -> j < n:=fun j hj=>by
   rcases dC j n with h | h
   ·exact h
   rcases dC j ops.size with h2 | h2
   ·have:=getD_both (inv.tail j h h2)
    rw [this] at hj;cases hj
   rw [bI,bA (by rw [inv.size];omega)] at hj
   cases hj
  have hfacts:jB ops Ss ν i w:=fun j hj=>hf j (hsmall j (hdep j hj)) (hdep j hj)
  have hsz:w0.heap.size <= w.heap.size:=hb.size
  have later:∀ (w' : World),Below w.heap.size w w' -> ∀ j,listed.getD j false=true -> (Ss j).fact (ν j) w':=fun w' hg j hl=>by
   have h1:=hf j (hsmall j hl) hl
   have h2:=hlast j
   generalize Ss j=s at h1 h2 ⊢
   cases s with
   | holds S=>exact h2 _ _ _ h1 hg
   | made B mk A=>obtain ⟨b,e,hB,hx⟩:=h1;exact ⟨b,e,hB,hx.later hg⟩
   | _=>trivial
  -- the frame and the facts behind a step that leaves ν as it was
  have next:∀ (w' : World),Below w.heap.size w w' -> (Ss i).fact (ν i) w' -> (Ss i).isMade=false -> wpAny P .any ops Q (m+(ops.size - n)) (listed.setIfInBounds i true) (a.put o.dst (vals i)) w':=fun w' hg hfi hnm=>by
   refine ih _ _ _ ν vals hinv' hcnt' htold (Below.more hb hsz hg) (fun j hj hl => ?_) (fun x y hne hx hy hmx hmy => ?_) ((hfr.put ht ho hin).congr (fun _ _ _=>rfl) (fun j _=>(hset j).symm))
   ·rcases (hset j).1 hl with rfl | hl
    ·exact hfi
    exact later w' hg j hl
   rcases (hset x).1 hx with rfl | hx
   ·rw [hnm] at hmx;cases hmx
   rcases (hset y).1 hy with rfl | hy
   ·rw [hnm] at hmy;cases hmy
   exact hap x y hne hx hy hmx hmy
  -- the same where the step gives the operation's own ghost
  have fresh:∀ (u:Value) (w' : World),Below w.heap.size w w' -> (Ss i).fact u w' -> Ss i ≠ .plain -> ((Ss i).isMade=true -> u = .pointer (some ⟨w.heap.size,0,none⟩)) ->
    wpAny P .any ops Q (m+(ops.size - n)) (listed.setIfInBounds i true) (a.put o.dst ((Ss i).val u)) w':=fun u w' hg hs hnp hmk=>by
   let ν' : Nat -> Value:=fun j=>if j=i then u else ν j
   have hνi : ν' i=u:=by simp [ν']
   have hνj:∀ j,listed.getD j false=true -> ν j = ν' j:=fun j hj=>by
    have hne:j ≠ i:=fun e=>by rw [e,getD_both hun] at hj;cases hj
    simp [ν',hne]
   obtain ⟨vals',htold'⟩:=hall ν'
   have hbw' : Below w0.heap.size w0 w':=Below.more hb hsz hg
   have hsame:=lA ht hsel hn inv.closed htold htold' hbw' (later w' hg) hνj
   have hvi:vals' i=(Ss i).val u:=by
    obtain ⟨b',hfb',hstep'⟩:=htold'.step i o ho hin
    rcases hstep' with ⟨_,hp',_⟩ | ⟨_,hv',_⟩ | ⟨_,hp',_⟩
    ·exact absurd hp' hnp
    ·rw [hv',hνi]
    exact absurd hp' hnp
   have hfr' : Fr ops n a0 vals' (fun j=>listed.getD j false=true) a:=hfr.congr (fun j hj hl=>hsame j hj hl) (fun _ _=>Iff.rfl)
   have old:∀ j,listed.getD j false=true -> (Ss j).isMade=true -> (Ss i).isMade=true -> ν j ≠ u:=fun j hl hmj hmi e=>by
    have h1:=hf j (hsmall j hl) hl
    rw [hmk hmi] at e
    generalize Ss j=s at h1 hmj
    cases s with
    | made B mk A =>
     obtain ⟨b,e2,_,hx⟩:=h1
     rw [e] at e2
     simp at e2
     have:=hx.lt
     omega
    | _=>cases hmj
   rw [<-hvi]
   refine ih _ _ _ ν' vals' hinv' hcnt' htold' hbw' (fun j hj hl => ?_) (fun x y hne hx hy hmx hmy => ?_) ((hfr'.put ht ho hin).congr (fun _ _ _=>rfl) (fun j _=>(hset j).symm))
   ·by_cases e:j=i
    ·subst e;rw [hνi];exact hs
    have hl':=((hset j).1 hl).resolve_left e
    rw [<-hνj j hl']
    exact later w' hg j hl'
   ·by_cases ex:x=i
    ·subst ex
     have hy':=((hset y).1 hy).resolve_left (fun e=>hne e.symm)
     rw [hνi, <-hνj y hy']
     exact fun e=>old y hy' hmy hmx e.symm
    have hx':=((hset x).1 hx).resolve_left ex
    rw [<-hνj x hx']
    by_cases ey:y=i
    ·subst ey
     rw [hνi]
     exact old x hx' hmx hmy
    have hy':=((hset y).1 hy).resolve_left ey
    rw [<-hνj y hy']
    exact hap x y hne hx' hy' hmx hmy
  unfold wpOp
  simp only [ho]
  rw [ew]
  rcases hstep with ⟨hw,hp,hy⟩ | ⟨hw,hv,hc⟩ | ⟨hw,hp,hv⟩
  ·rw [if_pos hw]
   left
   obtain ⟨w',hr,hg⟩:=hy w hb hfacts
   unfold Oper.wp
   rw [ex]
   rcases hr with hr | ⟨hr,hv⟩
   ·rw [hr];exact next w' hg (by rw [hp];trivial) (by rw [hp];rfl)
   rw [hr,Oper.upon_skip, <-hv];exact next w' hg (by rw [hp];trivial) (by rw [hp];rfl)
  ·rw [if_pos hw]
   left
   rcases hc with hc | ⟨mk,A,hk,hc⟩
   ·obtain ⟨f,args,hr,hcall⟩:=hc w hb hfacts
    unfold Oper.wp
    rw [ex,hr,Oper.upon_enter]
    refine hcall.mono fun e w' ⟨u,he,hs,hg⟩ => ?_
    subst he
    show wpAny P .any ops Q (m+(ops.size - n)) (listed.setIfInBounds i true) (a.put o.dst u) w'
    cases hk:Ss i with
    | plain=>rw [hk] at hs;exact hs.elim
    | made _ _ _=>rw [hk] at hs;exact hs.elim
    | const c =>
     rw [hk] at hs hv
     have:u=vals i:=by rw [hv];exact hs
     rw [this]
     exact next w' hg (by rw [hk];trivial) (by rw [hk];rfl)
    | holds S =>
     rw [hk] at hs
     have:=fresh u w' hg (by rw [hk];exact hs) (by rw [hk];intro h;cases h) (by rw [hk];intro h;cases h)
     rw [hk] at this
     exact this
   obtain ⟨T,hr⟩:=hc w hb hfacts
   unfold Oper.wp
   rw [ex,hr,Oper.upon_value]
   have:=fresh (.pointer (some ⟨w.heap.size,0,none⟩)) (w.alloc (.cells A T)) ((Below.refl _ _).alloc (aF _) _) (by rw [hk];exact ⟨_,rfl,hsz,Box.new _ _ _⟩) (by rw [hk];intro h;cases h) (fun _=>rfl)
   rw [hk] at this
   exact this
  rw [hw]
  simp only [bL,if_false]
  rw [<-hv]
  exact next w (Below.refl _ _) (by rw [hp];trivial) (by rw [hp];rfl)
theorem wp_region_grow {id:Nat} {Q:Exit -> Act -> World -> Prop} {a:Act} {w:World} {l:List Oper} (n:Nat) (Ss:Nat -> Known) (hm:P.follows .mixedOrders=true) (hB:jJ l.toArray n=true) (hlast:∀ k,(Ss k).lasts)
  (h:∀ ν,Grow P l.toArray w Ss ν (wpList P l.toArray Q (l.drop n)) (l.take n) 0 a):(Code.region id l.toArray true).wp P Q a w:=by
 have hB':=hB
 simp only [jJ,aN,bQ,decide_eq_true_eq,beq_iff_eq] at hB
 obtain ⟨⟨⟨⟨⟨hsel,hn⟩,hed⟩,ht⟩,hsc⟩,hseq⟩:=hB
 have hn' : n <= l.length:=by simpa using hn
 have hall:∀ ν, ∃ vals,Told P l.toArray n w Ss (wpList P l.toArray Q (l.drop n)) a ν vals:=fun ν =>
  oF ht (fun j hj=>by
   have hj' : j < n:=by simp at hj;omega
   simp [hj']) (by simp;omega) (h ν)
 obtain ⟨vals,htold⟩:=hall fun _=>undef
 refine wp_region_any hm ?_
 have inv0:HeadInv .any l.toArray n (Array.replicate l.toArray.size false) :=
  ⟨by simp,fun j oj _ hl=>(by rw [getD_replicate_false] at hl;cases hl),fun t _ ht=>getD_in (by simpa using ht) (getD_replicate_false _ _)⟩
 have hc:∀ m,m <= l.toArray.size -> cnt (Array.replicate l.toArray.size false) m=m:=by
  intro m
  induction m with
  | zero=>intro _;rfl
  | succ m ih =>
   intro hm
   have:(Array.replicate l.toArray.size false).getD m true=false:=getD_in (by simp at hm ⊢;omega) (getD_replicate_false _ _)
   simp only [cnt]
   rw [ih (by omega),this]
   simp
 have:=mN (P:=P) (Q:=Q) (tail:=l.drop n) hB' hlast (fun j=>by simp [cH]) hall n (Array.replicate l.toArray.size false) a w.drew _ vals inv0 (hc n hn) htold
  (Below.refl _ w).drew (fun j _ hl=>by rw [getD_replicate_false] at hl;cases hl) (fun i j _ hl=>by rw [getD_replicate_false] at hl;cases hl) (Fr.start fun j _ hl=>by rw [getD_replicate_false] at hl;cases hl)
 rw [show n+(l.toArray.size - n)=l.toArray.size by omega] at this
 exact this
theorem aDB {n:Nat} (hed:rU ops n=true):∀ (f k j:Nat),k < n -> depB ops f k j=true -> j < k
 | 0,_,_,_,h=>by simp [depB] at h
 | f+1,k,j,hk,h=>by
  unfold depB at h
  split at h
  ·rename_i o ho
   obtain ⟨e,he,hb⟩:=Array.any_eq_true'.1 h
   simp only [aN,bQ,beq_iff_eq] at hb
   have hlt:=iD hed hk ho he hb.1
   rcases hb.2 with rfl | hb2
   ·exact hlt
   have:=aDB hed f e.on j (by omega) hb2;omega
  cases h
theorem lG {n:Nat} {w0:World} {Ss:Nat -> Known} {Q:Exit -> Act -> World -> Prop} {tail:List Oper} (hed:rU ops n=true) (hlast:∀ k,(Ss k).lasts) :
  ∀ (l:List Oper) (k:Nat) (a:Act) (w:World) (ν : Nat -> Value),k+l.length <= n -> Below w0.heap.size w0 w -> (∀ j,j < k -> (Ss j).fact (ν j) w) -> tL Ss ν k ->
   (∀ ν',(∀ j,j < k -> ν' j = ν j) -> Grow P ops w0 Ss ν' (wpList P ops Q tail) l k a) -> wpList P ops Q (l ++ tail) a w
 | [],k,a,w, ν,_,hb,hf,hap,H=>H ν (fun _ _=>rfl) w hb hf hap
 | o :: rest,k,a,w, ν,hk,hb,hf,hap,H=>by
  simp only [bB] at hk
  have hfacts:∀ ν',(∀ j,j < k -> ν' j = ν j) -> jB ops Ss ν' k w:=fun ν' he j hj=>by
   have:=aDB hed ops.size k j (by omega) hj
   rw [he j this];exact hf j this
  have hsz:w0.heap.size <= w.heap.size:=hb.size
  have later:∀ w',Below w.heap.size w w' -> ∀ j,j < k -> (Ss j).fact (ν j) w':=fun w' hg j hl=>by
   have h1:=hf j hl
   have h2:=hlast j
   generalize Ss j=s at h1 h2 ⊢
   cases s with
   | holds S=>exact h2 _ _ _ h1 hg
   | made B mk A=>obtain ⟨b,e,hB,hx⟩:=h1;exact ⟨b,e,hB,hx.later hg⟩
   | _=>trivial
  have H0:=H ν (fun _ _=>rfl)
  show wpList P ops Q (o :: (rest ++ tail)) a w
  by_cases hw:Region.wanted o (yielded ops a.tmps)=true
  ·have goal:o.wp P a w (wpList P ops Q (rest ++ tail)) Q -> wpList P ops Q (o :: (rest ++ tail)) a w:=fun h=>by
    unfold wpList;rw [if_pos hw];exact .inl h
   refine goal ?_
   simp only [Grow,hw,if_true] at H0
   rcases H0 with ⟨hp,v,hy,_⟩ | ⟨hc,_⟩ | ⟨mk,A,hm,hc,_⟩
   ·obtain ⟨w',hr,hg⟩:=hy w hb (hfacts ν fun _ _=>rfl)
    have next:wpList P ops Q (rest ++ tail) (a.put o.dst v) w':=by
     refine lG hed hlast rest (k+1) _ w' ν (by omega) (Below.more hb hsz hg) (fun j hj => ?_) (fun i j hi hj hne h1 h2 => ?_) (fun ν' he => ?_)
     ·by_cases e:j=k
      ·subst e;rw [hp];trivial
      exact later w' hg j (by omega)
     ·refine hap i j ?_ ?_ hne h1 h2
      ·by_cases e:i=k
       ·subst e;rw [hp] at h1;cases h1
       omega
      by_cases e:j=k
      ·subst e;rw [hp] at h2;cases h2
      omega
     have H1:=H ν' (fun j hj=>he j (by omega))
     simp only [Grow,hw,if_true] at H1
     rcases H1 with ⟨_,v',hy',h'⟩ | ⟨hc',_⟩ | ⟨mk,A,hm,_,_⟩
     ·obtain ⟨w2,hr2,_⟩:=hy' w hb (hfacts ν' fun j hj=>he j (by omega))
      have:v=v':=by
       rcases hr with hr | ⟨hr,q⟩ <;> rcases hr2 with hr2 | ⟨hr2,q2⟩ <;> rw [hr] at hr2 <;> simp_all
      rw [this];exact h'
     ·obtain ⟨f,args,hr2,_⟩:=hc' w hb (hfacts ν' fun j hj=>he j (by omega))
      exfalso
      rcases hr with hr | ⟨hr,q⟩ <;> rw [hr] at hr2 <;> simp_all
     rw [hp] at hm;cases hm
    unfold Oper.wp
    rcases hr with hr | ⟨hr,q⟩
    ·rw [hr];exact next
    rw [hr,Oper.upon_skip, <-q];exact next
   ·obtain ⟨f,args,hr,hcall⟩:=hc w hb (hfacts ν fun _ _=>rfl)
    unfold Oper.wp
    rw [hr,Oper.upon_enter]
    refine hcall.mono fun e w' ⟨u,he,hs,hg⟩ => ?_
    subst he
    show wpList P ops Q (rest ++ tail) (a.put o.dst u) w'
    have hnm:(Ss k).isMade=false:=by
     generalize Ss k=s at hs ⊢
     cases s with
     | made _ _ _=>exact hs.elim
     | _=>rfl
    let ν1:Nat -> Value:=fun j=>if j=k then u else ν j
    have e1:∀ j,j < k -> ν1 j = ν j:=fun j hj=>by simp [ν1,show j ≠ k by omega]
    have ek : ν1 k=u:=by simp [ν1]
    refine lG hed hlast rest (k+1) _ w' ν1 (by omega) (Below.more hb hsz hg) (fun j hj => ?_) (fun i j hi hj hne h1 h2 => ?_) (fun ν' he => ?_)
    ·by_cases e:j=k
     ·subst e;rw [ek]
      generalize Ss j=s at hs ⊢
      cases s with
      | holds S=>exact hs
      | made _ _ _=>exact hs.elim
      | _=>trivial
     rw [e1 j (by omega)];exact later w' hg j (by omega)
    ·have hi' : i < k:=by
      by_cases e:i=k
      ·subst e;rw [hnm] at h1;cases h1
      ·omega
     have hj' : j < k:=by
      by_cases e:j=k
      ·subst e;rw [hnm] at h2;cases h2
      omega
     rw [e1 i hi',e1 j hj'];exact hap i j hi' hj' hne h1 h2
    have H1:=H ν' (fun j hj=>(he j (by omega)).trans (e1 j hj))
    have hv:(Ss k).val (ν' k)=u:=by
     rw [he k (by omega),ek]
     generalize Ss k=s at hs ⊢
     cases s with
     | plain=>exact hs.elim
     | const c=>exact hs.symm
     | holds S=>rfl
     | made _ _ _=>exact hs.elim
    simp only [Grow,hw,if_true] at H1
    rcases H1 with ⟨_,v',hy',h'⟩ | ⟨_,h'⟩ | ⟨mk,A,hm,hc',_⟩
    ·obtain ⟨w2,hr2,_⟩:=hy' w hb (hfacts ν' fun j hj=>(he j (by omega)).trans (e1 j hj))
     exfalso
     rcases hr2 with hr2 | ⟨hr2,q⟩ <;> rw [hr] at hr2 <;> simp_all
    ·rw [hv] at h';exact h'
    rw [hm] at hnm;cases hnm
   ·obtain ⟨T,hr⟩:=hc w hb (hfacts ν fun _ _=>rfl)
    unfold Oper.wp
    rw [hr,Oper.upon_value]
    have hg:Below w.heap.size w (w.alloc (.cells A T)):=(Below.refl _ _).alloc (aF _) _
    let ν1:Nat -> Value:=fun j=>if j=k then .pointer (some ⟨w.heap.size,0,none⟩) else ν j
    have e1:∀ j,j < k -> ν1 j = ν j:=fun j hj=>by simp [ν1,show j ≠ k by omega]
    have ek : ν1 k = .pointer (some ⟨w.heap.size,0,none⟩):=by simp [ν1]
    have old:∀ j,j < k -> (Ss j).isMade=true -> ν j ≠ .pointer (some ⟨w.heap.size,0,none⟩):=fun j hj hm e=>by
     have h1:=hf j hj
     rw [e] at h1
     generalize Ss j=s at h1 hm
     cases s with
     | made B mk A =>
      obtain ⟨b,e2,_,hx⟩:=h1
      simp at e2
      have:=hx.lt
      omega
     | _=>cases hm
    refine lG hed hlast rest (k+1) _ _ ν1 (by omega) (Below.more hb hsz hg) (fun j hj => ?_) (fun i j hi hj hne h1 h2 => ?_) (fun ν' he => ?_)
    ·by_cases e:j=k
     ·subst e;rw [ek,hm];exact ⟨_,rfl,hsz,Box.new _ _ _⟩
     rw [e1 j (by omega)];exact later _ hg j (by omega)
    ·by_cases ei:i=k
     ·subst ei
      rw [ek,e1 j (by omega)]
      exact fun e=>old j (by omega) h2 e.symm
     rw [e1 i (by omega)]
     by_cases ej:j=k
     ·subst ej;rw [ek];exact old i (by omega) h1
     rw [e1 j (by omega)];exact hap i j (by omega) (by omega) hne h1 h2
    have H1:=H ν' (fun j hj=>(he j (by omega)).trans (e1 j hj))
    have hv:(Ss k).val (ν' k)=mk w.heap.size:=by rw [he k (by omega),ek,hm];rfl
    simp only [Grow,hw,if_true] at H1
    rcases H1 with ⟨hp',_⟩ | ⟨_,h'⟩ | ⟨_,_,_,_,h'⟩
    ·rw [hm] at hp';cases hp'
    ·rw [hv] at h';exact h'
    rw [hv] at h';exact h'
  simp only [dI] at hw
  have goal:wpList P ops Q (rest ++ tail) (a.put o.dst undef) w -> wpList P ops Q (o :: (rest ++ tail)) a w:=fun h=>by
   unfold wpList;rw [if_neg (by rw [hw];simp)];exact h
  refine goal ?_
  simp only [Grow,hw,bL,if_false] at H0
  refine lG hed hlast rest (k+1) _ w ν (by omega) hb (fun j hj => ?_) (fun i j hi hj hne h1 h2 => ?_) (fun ν' he => ?_)
  ·by_cases e:j=k
   ·subst e;rw [H0.1];trivial
   exact hf j (by omega)
  ·refine hap i j ?_ ?_ hne h1 h2
   ·by_cases e:i=k
    ·subst e;rw [H0.1] at h1;cases h1
    omega
   by_cases e:j=k
   ·subst e;rw [H0.1] at h2;cases h2
   omega
  have H1:=H ν' (fun j hj=>he j (by omega))
  simp only [Grow,hw,bL,if_false] at H1
  exact H1.2
theorem gK {id:Nat} {Q:Exit -> Act -> World -> Prop} {a:Act} {w:World} {l:List Oper} (n:Nat) (Ss:Nat -> Known) (hed:rU l.toArray n=true) (hn:n <= l.length) (hlast:∀ k,(Ss k).lasts)
  (h:∀ ν,Grow P l.toArray w Ss ν (wpList P l.toArray Q (l.drop n)) (l.take n) 0 a):(Code.region id l.toArray false).wp P Q a w:=by
 refine wp_region_lit ?_
 have:=lG (P:=P) (Q:=Q) (tail:=l.drop n) hed hlast (l.take n) 0 a w (fun _=>undef) (by simp;omega) (Below.refl _ _) (fun j hj=>by omega) (fun i j hi=>by omega) (fun ν' _=>h ν')
 rwa [cV] at this
end
end Go.Proofs.YtcmflfkpeodicaaGreat
