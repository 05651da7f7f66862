/- Part 55. -/
import Derived.Test.YtagabiidbbhhmaaGreatEU2
namespace Go.Proofs.YtagabiidbbhhmaaGreat
set_option linter.all false
open Go.RowKit
section
variable {P:Program} {ops:Array Oper}
def Oper.callsOne (P:Program) (o:Oper) (a:Act) (w:World) (D:Nat -> Prop) (v:Value) (T:World -> Prop) (Z:List PanicEntry -> World -> Prop):Prop :=
 ∃ f args,(execOp a.eval o).run P w = .ok (.enter f args) w/\Calls P f args w fun e w'=>(e = .returned v/\T w') \/ ∃ ch,e = .panicked ch/\Z ch w'
def kW (P:Program) (ops:Array Oper) (w0:World) (p:Nat) (D:Nat -> Prop) (v:Value) (T:World -> Prop) (Z:List PanicEntry -> World -> Prop) (L:Act -> World -> Prop):List Oper -> Nat -> Act -> Prop
 | [],_,a => ∀ w',T w' -> L a w'
 | o :: rest,k,a =>
  if k=p then (Region.wanted o (yielded ops a.tmps)=true /\ ∀ w',Below w0.heap.size w0 w' -> Oper.callsOne P o a w' D v T Z)/\kW P ops w0 p D v T Z L rest (k+1) (a.put o.dst v)
  else if Region.wanted o (yielded ops a.tmps) then ∃ v',(∀ w',(Below w0.heap.size w0 w' \/ T w') -> Oper.yields P o a w' v')/\kW P ops w0 p D v T Z L rest (k+1) (a.put o.dst v')
  else kW P ops w0 p D v T Z L rest (k+1) (a.put o.dst undef)
section
variable {w0:World} {p:Nat} {D:Nat -> Prop} {v:Value} {T:World -> Prop} {Z:List PanicEntry -> World -> Prop} {L:Act -> World -> Prop} {o:Oper} {rest:List Oper} {k:Nat} {a:Act}
theorem kW.val {v' : Value} (hk:k ≠ p) (hg:Region.wanted o (yielded ops a.tmps)=true)
  (hy:∀ w',(Below w0.heap.size w0 w' \/ T w') -> (execOp a.eval o).run P w' = .ok (.value v') w') (h:kW P ops w0 p D v T Z L rest (k+1) (a.put o.dst v')):kW P ops w0 p D v T Z L (o :: rest) k a:=by
 simp only [kW,hg,if_true,if_neg hk]
 exact ⟨v',fun w' h1=>⟨w',.inl (hy w' h1),Below.refl _ _⟩,h⟩
theorem kW.call {f:FuncId} {args:Array Value} (hk:k=p) (hg:Region.wanted o (yielded ops a.tmps)=true)
  (hrun:∀ w' : World,(execOp a.eval o).run P w' = .ok (.enter f args) w') (hy:∀ w',Below w0.heap.size w0 w' -> Calls P f args w' fun e w''=>(e = .returned v/\T w'') \/ ∃ ch,e = .panicked ch/\Z ch w'')
  (h:kW P ops w0 p D v T Z L rest (k+1) (a.put o.dst v)):kW P ops w0 p D v T Z L (o :: rest) k a:=by
 simp only [kW,if_pos hk]
 exact ⟨⟨hg,fun w' h1=>⟨f,args,hrun w',hy w' h1⟩⟩,h⟩
end
def aDH (P:Program) (ops:Array Oper) (w0:World) (p:Nat) (D:Nat -> Prop) (v:Value) (T:World -> Prop) (Z:List PanicEntry -> World -> Prop) (o:Oper) (k:Nat) (a:Act) (u:Value):Prop :=
 (k=p/\u=v/\Region.wanted o (yielded ops a.tmps)=true /\ ∀ w',Below w0.heap.size w0 w' -> Oper.callsOne P o a w' D v T Z) \/
 (k ≠ p/\Region.wanted o (yielded ops a.tmps)=true /\ ∀ w',(Below w0.heap.size w0 w' \/ T w') -> Oper.yields P o a w' u) \/
 (k ≠ p/\Region.wanted o (yielded ops a.tmps)=false/\u=undef)
theorem aFA {n:Nat} {w0:World} {p:Nat} {D:Nat -> Prop} {v:Value} {T:World -> Prop} {Z:List PanicEntry -> World -> Prop} {L:Act -> World -> Prop} {a0:Act} (ht:mA ops n=true) :
  ∀ (l:List Oper) (k:Nat) (a:Act) (v0:Nat -> Value),(∀ j,j < l.length -> ops[k+j]? = l[j]?) -> k+l.length=n -> Fr ops n a0 v0 (· < k) a -> kW P ops w0 p D v T Z L l k a ->
   ∃ vals:Nat -> Value,(∀ j,j < k -> vals j=v0 j)/\(∀ j o,ops[j]? = some o -> k <= j -> j < n -> ∃ b,Fr ops n a0 vals (· < j) b/\aDH P ops w0 p D v T Z o j b (vals j)) /\
    ∃ b,Fr ops n a0 vals (· < n) b /\ ∀ w',T w' -> L b w'
 | [],k,a,v0,_,hk,hf,h=>by
  have af : k=n:=by simpa using hk
  subst af
  exact ⟨v0,fun _ _=>rfl,fun j o _ h1 h2=>by omega,a,hf,h⟩
 | o :: rest,k,a,v0,hl,hk,hf,h=>by
  simp only [bE] at hk
  have ho:ops[k]? = some o:=by simpa using hl 0 (by simp)
  have ae : ∀ j,j < rest.length -> ops[k+1+j]? = rest[j]?:=fun j hj=>by
   have:=hl (j+1) (by simp;omega)
   simpa [Nat.add_assoc,Nat.add_comm 1 j] using this
  have ag:∃ u,aDH P ops w0 p D v T Z o k a u/\kW P ops w0 p D v T Z L rest (k+1) (a.put o.dst u):=by
   simp only [kW] at h
   by_cases hkp:k=p
   ·rw [if_pos hkp] at h
    exact ⟨v,.inl ⟨hkp,rfl,h.1.1,h.1.2⟩,h.2⟩
   rw [if_neg hkp] at h
   by_cases hw:Region.wanted o (yielded ops a.tmps)=true
   ·simp only [hw,if_true] at h
    obtain ⟨u,h2,h3⟩:=h
    exact ⟨u,.inr (.inl ⟨hkp,hw,h2⟩),h3⟩
   simp only [eL] at hw
   simp only [hw,bM,if_false] at h
   exact ⟨undef,.inr (.inr ⟨hkp,hw,rfl⟩),h⟩
  obtain ⟨u,hs,hg⟩:=ag
  let v1:Nat -> Value:=fun j=>if j=k then u else v0 j
  have e1:∀ j,j < k -> v1 j=v0 j:=fun j hj=>by simp only [v1];rw [if_neg (by omega)]
  have ek:v1 k=u:=by simp [v1]
  have aa:Fr ops n a0 v1 (· < k) a:=hf.congr (fun j _ hj=>(e1 j hj).symm) (fun _ _=>Iff.rfl)
  have ab:=aa.put ht ho (by omega)
  rw [ek] at ab
  have ad:Fr ops n a0 v1 (· < k+1) (a.put o.dst u):=ab.congr (fun _ _ _=>rfl) (fun j _=>by omega)
  obtain ⟨vals,hv,ac,hd⟩:=aFA ht rest (k+1) _ v1 ae (by omega) ad hg
  refine ⟨vals,fun j hj=>(hv j (by omega)).trans (e1 j hj),fun j oj hj hkj hjn => ?_,hd⟩
  by_cases hjk:j=k
  ·subst hjk
   rw [ho] at hj
   cases hj
   refine ⟨a,aa.congr (fun i _ hi=>(hv i (by omega)).symm) (fun _ _=>Iff.rfl), ?_⟩
   rw [hv j (by omega),ek]
   exact hs
  exact ac j oj hj (by omega) hjn
set_option maxHeartbeats 1000000 in
theorem aDI {n:Nat} {w0:World} {p:Nat} {D:Nat -> Prop} {v:Value} {T:World -> Prop} {Z:List PanicEntry -> World -> Prop} {Q:Exit -> Act -> World -> Prop} {tail:List Oper} {a0:Act} (hB:kE ops n=true) (hp:p < n) {vals:Nat -> Value}
  (htail:∀ j,tail[j]? = ops[n+j]?) (hT:∀ w w',T w -> Below w.heap.size w w' -> T w')
  (hst:∀ j o,ops[j]? = some o -> j < n -> ∃ b,Fr ops n a0 vals (· < j) b/\aDH P ops w0 p D v T Z o j b (vals j)) (hdone:∃ b,Fr ops n a0 vals (· < n) b /\ ∀ w',T w' -> wpList P ops Q tail b w') (hQ:∀ ch a' w',a'.defers=a0.defers -> Z ch w' -> Q (.panic ch) a' w') :
  ∀ (m:Nat) (listed:Array Bool) (a:Act) (w:World),HeadInv .any ops n listed -> cnt listed n=m ->
   ((listed.getD p true=false/\Below w0.heap.size w0 w) \/ (listed.getD p false=true/\T w)) -> Fr ops n a0 vals (fun j=>listed.getD j false=true) a -> wpAny P .any ops Q (m+(ops.size - n)) listed a w:=by
 simp only [kE,aK,cH,decide_eq_true_eq,beq_iff_eq] at hB
 obtain ⟨⟨⟨⟨⟨aq,hn⟩,bh⟩,ht⟩,bf⟩,ar⟩:=hB
 intro m
 induction m with
 | zero =>
  intro listed a w ab af ao ah
  have ak:tail.length=ops.size - n:=by
   apply Nat.le_antisymm
   ·by_cases hle:tail.length <= ops.size - n
    ·exact hle
    have h1:=htail (ops.size - n)
    rw [bC (by omega)] at h1
    have:=dR.1 h1
    omega
   by_cases hle:ops.size - n <= tail.length
   ·exact hle
   have h1:=htail tail.length
   rw [aT (aC _)] at h1
   have:=cK.1 h1.symm
   omega
  have hl:∀ j,j < n -> listed.getD j false=true:=fun j hj=>gC (jV n af j hj) (by rw [ab.size];omega)
  have aj:listed=gN ops.size n:=by
   apply dP
   intro j
   by_cases hj:j < ops.size
   ·have e2:(gN ops.size n)[j]? = some (decide (j < n)):=by simp [gN,hj]
    rw [e2]
    by_cases hjn:j < n
    ·have:=hl j hjn
     rw [bP] at this
     cases hx:listed[j]? with
     | none=>rw [hx] at this;cases this
     | some b=>rw [hx] at this;simp at this;rw [this,decide_eq_true hjn]
    have:=ab.tail j (by omega) hj
    rw [bP] at this
    cases hx:listed[j]? with
    | none=>rw [hx] at this;cases this
    | some b=>rw [hx] at this;simp at this;rw [this,decide_eq_false hjn]
   rw [bC (by rw [ab.size];omega),bC (by simp [gN];omega)]
  have bg:T w:=by
   rcases ao with ⟨h1,_⟩ | ⟨_,h2⟩
   ·have:=jV n af p hp
    rw [this] at h1;cases h1
   exact h2
  obtain ⟨b,az,bi⟩:=hdone
  have be:a=b:=ah.eq az fun j hj=>⟨fun _=>hj,fun _=>hl j hj⟩
  subst be
  have:=wpAny_of_seq (md:=.any) (Q':=Q) tail n listed a w htail (by rw [aj,ak];exact ar) (bi w bg)
  rw [ak] at this
  rw [bH]
  exact this
 | succ m ih =>
  intro listed a w ab af ao ah
  rw [show m+1+(ops.size - n)=(m+(ops.size - n))+1 by omega]
  obtain ⟨k0,ay,ax,ap⟩:=kD (listed:=listed) n (by omega)
  have aa:k0 ∈ Region.ready .any ops listed:=by
   refine mem_ready.2 ⟨ax,ops[k0],aY (by omega),fun e he hbi => ?_⟩
   have:=jB bh ay (aY (by omega)) he hbi
   exact gC (ap _ this) (by rw [ab.size];omega)
  refine ⟨fun h0=>(by rw [h0] at aa;cases aa),fun i hi => ?_⟩
  have ag:i < n:=by
   rcases dM i n with h | h
   ·exact h
   rcases bf with h1 | h1
   ·obtain ⟨_,o,ho,_⟩:=mem_ready.1 hi
    have:=(aM.1 ho).1
    omega
   by_cases hns:n < ops.size
   ·exact absurd hi (tail_waits h1.1 h1.2 hns ab _ k0 rfl ay ax i h)
   obtain ⟨_,o,ho,_⟩:=mem_ready.1 hi
   have:=(aM.1 ho).1
   omega
  obtain ⟨aw,o,ho,am⟩:=mem_ready.1 hi
  have ae:=ab.set hi ag
  have ad : cnt (listed.setIfInBounds i true) n=m:=by
   have:=(nI (by rw [ab.size];omega) aw n).2 ag
   omega
  have ac:∀ j,(listed.setIfInBounds i true).getD j false=true ↔ (j=i \/ listed.getD j false=true):=fun j=>by
   by_cases e:i=j
   ·subst e
    have:i < listed.size:=by rw [ab.size];omega
    simp [this]
   rw [getD_set_ne false e]
   exact ⟨fun h=>.inr h,fun h=>h.resolve_left (fun e'=>e e'.symm)⟩
  obtain ⟨b,bb,ai⟩:=hst i o ho ag
  have al:∀ d,d ∈ o.looksAt ops -> a.tmps[d]? = b.tmps[d]?:=fun d hd=>Fr.same ht ah bb ho ag (fun j hj he hji=>by
   obtain ⟨oj,hoj,e,hem,hbi,hon⟩:=gY he
   rw [ho] at hoj
   cases hoj
   exact ⟨by rw [<-hon];exact am e hem hbi,hji,rfl⟩) d hd
  obtain ⟨ex,ew⟩:=jF (ops:=ops) (o:=o) (fun cs b=>Region.noSelect_spec aq i o cs b ho) al
  have bc:Below w0.heap.size w0 w \/ T w:=ao.imp (fun h=>h.2) (fun h=>h.2)
  have next:i ≠ p -> ∀ (w' : World),Below w.heap.size w w' -> wpAny P .any ops Q (m+(ops.size - n)) (listed.setIfInBounds i true) (a.put o.dst (vals i)) w':=fun hip w' hg=>by
   refine ih _ _ _ ae ad ?_ ((ah.put ht ho ag).congr (fun _ _ _=>rfl) (fun j _=>(ac j).symm))
   rcases ao with ⟨h1,h2⟩ | ⟨h1,h2⟩
   ·left
    exact ⟨by rw [getD_set_ne true hip];exact h1,Below.more h2 h2.size hg⟩
   right
   exact ⟨(ac p).2 (.inr h1),hT w w' h2 hg⟩
  unfold wpOp
  simp only [ho]
  rw [ew]
  rcases ai with ⟨hip,bd,hw,hy⟩ | ⟨hip,hw,hy⟩ | ⟨hip,hw,hv⟩
  ·rw [if_pos hw]
   left
   subst hip
   have ba:Below w0.heap.size w0 w:=by
    rcases ao with ⟨_,h2⟩ | ⟨h1,_⟩
    ·exact h2
    rw [getD_both aw] at h1;cases h1
   obtain ⟨f,args,hr,an⟩:=hy w ba
   unfold Oper.wp
   rw [ex,hr,Oper.upon_enter]
   refine an.mono fun e w' hz => ?_
   rcases hz with ⟨he,hz⟩ | ⟨ch,he,hz⟩
   ·subst he
    show wpAny P .any ops Q (m+(ops.size - n)) (listed.setIfInBounds i true) (a.put o.dst v) w'
    rw [<-bd]
    exact ih _ _ _ ae ad (.inr ⟨(ac i).2 (.inl rfl),hz⟩) ((ah.put ht ho ag).congr (fun _ _ _=>rfl) (fun j _=>(ac j).symm))
   subst he
   exact hQ ch _ w' ah.defers hz
  ·rw [if_pos hw]
   left
   obtain ⟨w',hr,hg⟩:=hy w bc
   unfold Oper.wp
   rw [ex]
   rcases hr with hr | ⟨hr,hv⟩
   ·rw [hr];exact next hip w' hg
   rw [hr,Oper.upon_skip, <-hv];exact next hip w' hg
  rw [hw]
  simp only [bM,if_false]
  rw [<-hv]
  exact next hip w (Below.refl _ _)
theorem qA {id:Nat} {Q:Exit -> Act -> World -> Prop} {a:Act} {w:World} {l:List Oper} (n p:Nat) (D:Nat -> Prop) (v:Value) (T:World -> Prop) (Z:List PanicEntry -> World -> Prop) (hm:P.follows .mixedOrders=true) (hB:kE l.toArray n=true) (hp:p < n)
  (hT:∀ w w',T w -> Below w.heap.size w w' -> T w') (hQ:∀ ch a' w',a'.defers=a.defers -> Z ch w' -> Q (.panic ch) a' w') (h:kW P l.toArray w p D v T Z (wpList P l.toArray Q (l.drop n)) (l.take n) 0 a):(Code.region id l.toArray true).wp P Q a w:=by
 have ad:=hB
 simp only [kE,aK,cH,decide_eq_true_eq,beq_iff_eq] at hB
 obtain ⟨⟨⟨⟨⟨hsel,hn⟩,hed⟩,ht⟩,hsc⟩,hseq⟩:=hB
 have hn' : n <= l.length:=by simpa using hn
 obtain ⟨vals, -,ac,aa⟩:=aFA (P:=P) (ops:=l.toArray) ht (l.take n) 0 a (fun _=>undef) (fun j hj=>by
  have hj' : j < n:=by simp at hj;omega
  simp [hj']) (by simp;omega) (Fr.start fun j _ hj=>by omega) h
 refine wp_region_any hm ?_
 have ab:HeadInv .any l.toArray n (Array.replicate l.toArray.size false) :=
  ⟨by simp,fun j oj _ hl=>(by rw [getD_replicate_false] at hl;cases hl),fun t _ ht=>getD_in (by simpa using ht) (getD_replicate_false _ _)⟩
 have hc:∀ m,m <= l.toArray.size -> cnt (Array.replicate l.toArray.size false) m=m:=by
  intro m
  induction m with
  | zero=>intro _;rfl
  | succ m ih =>
   intro hm
   have:(Array.replicate l.toArray.size false).getD m true=false:=getD_in (by simp at hm ⊢;omega) (getD_replicate_false _ _)
   simp only [cnt]
   rw [ih (by omega),this]
   simp
 have:=aDI (P:=P) (Q:=Q) (tail:=l.drop n) ad hp (fun j=>by simp [bK]) hT (fun j o ho hj=>ac j o ho (aH _) hj) aa hQ n (Array.replicate l.toArray.size false) a w.drew ab (hc n hn) (.inl ⟨getD_in (by simp;omega) (getD_replicate_false _ _),(Below.refl _ w).drew⟩)
  (Fr.start fun j _ hl=>by rw [getD_replicate_false] at hl;cases hl)
 rw [show n+(l.toArray.size - n)=l.toArray.size by omega] at this
 exact this
end
end Go.Proofs.YtagabiidbbhhmaaGreat
