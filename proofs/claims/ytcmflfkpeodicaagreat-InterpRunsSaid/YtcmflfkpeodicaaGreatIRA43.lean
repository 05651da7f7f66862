/- Part 43. -/
import Derived.Test.YtcmflfkpeodicaaGreatIRA38
import Derived.Test.YtcmflfkpeodicaaGreatIRA40
namespace Go.Proofs.YtcmflfkpeodicaaGreat
set_option maxHeartbeats 6400000
set_option linter.all false
open Go.RowKit
section
variable {P:Program} {ops:Array Oper}
def Oper.links (P:Program) (o:Oper) (a:Act) (w:World) (v:Value) (J:World -> Prop) (Z:List PanicEntry -> World -> Prop):Prop :=
 (∃ w',((execOp a.eval o).run P w = .ok (.value v) w' \/ ((execOp a.eval o).run P w = .ok .skip w' /\ v=undef))/\J w') \/
 ∃ f args,(execOp a.eval o).run P w = .ok (.enter f args) w/\Calls P f args w fun e w'=>(e = .returned v/\J w') \/ ∃ ch,e = .panicked ch/\Z ch w'
def aEC (ops:Array Oper) (n:Nat) (ps:List Nat):Bool:=(ps.all fun p=>decide (p < n)) && decide ps.Nodup && (List.range (ps.length - 1)).all fun j=>gZ ops (ps.getD (j+1) 0) (ps.getD j 0)
def jA (P:Program) (ops:Array Oper) (ps:List Nat) (v:Nat -> Value) (J:Nat -> World -> Prop) (Z:List PanicEntry -> World -> Prop) (L:Act -> World -> Prop):List Oper -> Nat -> Act -> Prop
 | [],_,a => ∀ w',J ps.length w' -> L a w'
 | o :: rest,k,a =>
  if k ∈ ps then (Region.wanted o (yielded ops a.tmps)=true /\ ∀ i w',ps[i]? = some k -> J i w' -> Oper.links P o a w' (v k) (J (i+1)) Z)/\jA P ops ps v J Z L rest (k+1) (a.put o.dst (v k))
  else if Region.wanted o (yielded ops a.tmps) then ∃ u,(∀ i w',J i w' -> Oper.yields P o a w' u)/\jA P ops ps v J Z L rest (k+1) (a.put o.dst u)
  else jA P ops ps v J Z L rest (k+1) (a.put o.dst undef)
section
variable {ps:List Nat} {v:Nat -> Value} {J:Nat -> World -> Prop} {Z:List PanicEntry -> World -> Prop} {L:Act -> World -> Prop} {o:Oper} {rest:List Oper} {k:Nat} {a:Act}
theorem jA.val {u:Value} (hk:k ∉ ps) (hg:Region.wanted o (yielded ops a.tmps)=true) (hy:∀ i w',J i w' -> (execOp a.eval o).run P w' = .ok (.value u) w') (h:jA P ops ps v J Z L rest (k+1) (a.put o.dst u)):jA P ops ps v J Z L (o :: rest) k a:=by
 simp only [jA,hg,if_true,if_neg hk]
 exact ⟨u,fun i w' h1=>⟨w',.inl (hy i w' h1),Below.refl _ _⟩,h⟩
theorem jA.skip (hk:k ∉ ps) (hg:Region.wanted o (yielded ops a.tmps)=false) (h:jA P ops ps v J Z L rest (k+1) (a.put o.dst undef)):jA P ops ps v J Z L (o :: rest) k a:=by
 simp only [jA,hg,if_neg hk]
 exact h
theorem jA.turn (i:Nat) (hk:ps[i]? = some k) (hn:ps.Nodup) (hv:v k=undef) (hg:Region.wanted o (yielded ops a.tmps)=true) (hy:∀ w',J i w' -> ∃ w'',(execOp a.eval o).run P w' = .ok .skip w'' /\ J (i+1) w'')
  (h:jA P ops ps v J Z L rest (k+1) (a.put o.dst undef)):jA P ops ps v J Z L (o :: rest) k a:=by
 simp only [jA,if_pos (aG hk)]
 refine ⟨⟨hg,fun j w' hj hw => ?_⟩,by rw [hv];exact h⟩
 have:j=i:=by
  obtain ⟨h1,h2⟩:=aE.1 hk
  obtain ⟨h3,h4⟩:=aE.1 hj
  exact (List.getElem_inj hn).1 (by rw [h2,h4])
 subst this
 obtain ⟨w'',h1,h2⟩:=hy w' hw
 exact .inl ⟨w'',.inr ⟨h1,hv⟩,h2⟩
theorem jA.call (i:Nat) {f:FuncId} {args:Array Value} (hk:ps[i]? = some k) (hn:ps.Nodup) (hg:Region.wanted o (yielded ops a.tmps)=true) (hrun:∀ w' : World,(execOp a.eval o).run P w' = .ok (.enter f args) w')
  (hy:∀ w',J i w' -> Calls P f args w' fun e w''=>(e = .returned (v k)/\J (i+1) w'') \/ ∃ ch,e = .panicked ch/\Z ch w'')
  (h:jA P ops ps v J Z L rest (k+1) (a.put o.dst (v k))):jA P ops ps v J Z L (o :: rest) k a:=by
 simp only [jA,if_pos (aG hk)]
 refine ⟨⟨hg,fun j w' hj hw => ?_⟩,h⟩
 have:j=i:=by
  obtain ⟨h1,h2⟩:=aE.1 hk
  obtain ⟨h3,h4⟩:=aE.1 hj
  exact (List.getElem_inj hn).1 (by rw [h2,h4])
 subst this
 exact .inr ⟨f,args,hrun w',hy w' hw⟩
end
def aED (P:Program) (ops:Array Oper) (ps:List Nat) (v:Nat -> Value) (J:Nat -> World -> Prop) (Z:List PanicEntry -> World -> Prop) (o:Oper) (k:Nat) (a:Act) (u:Value):Prop :=
 (k ∈ ps/\u=v k/\Region.wanted o (yielded ops a.tmps)=true /\ ∀ i w',ps[i]? = some k -> J i w' -> Oper.links P o a w' (v k) (J (i+1)) Z) \/
 (k ∉ ps/\Region.wanted o (yielded ops a.tmps)=true /\ ∀ i w',J i w' -> Oper.yields P o a w' u) \/
 (k ∉ ps/\Region.wanted o (yielded ops a.tmps)=false/\u=undef)
theorem aGB {n:Nat} {ps:List Nat} {v:Nat -> Value} {J:Nat -> World -> Prop} {Z:List PanicEntry -> World -> Prop} {L:Act -> World -> Prop} {a0:Act} (ht:lE ops n=true) :
  ∀ (l:List Oper) (k:Nat) (a:Act) (v0:Nat -> Value),(∀ j,j < l.length -> ops[k+j]? = l[j]?) -> k+l.length=n -> Fr ops n a0 v0 (· < k) a -> jA P ops ps v J Z L l k a ->
   ∃ vals:Nat -> Value,(∀ j,j < k -> vals j=v0 j)/\(∀ j o,ops[j]? = some o -> k <= j -> j < n -> ∃ b,Fr ops n a0 vals (· < j) b/\aED P ops ps v J Z o j b (vals j)) /\
    ∃ b,Fr ops n a0 vals (· < n) b /\ ∀ w',J ps.length w' -> L b w'
 | [],k,a,v0,_,hk,hf,h=>by
  have hk' : k=n:=by simpa using hk
  subst hk'
  exact ⟨v0,fun _ _=>rfl,fun j o _ h1 h2=>by omega,a,hf,h⟩
 | o :: rest,k,a,v0,hl,hk,hf,h=>by
  simp only [bB] at hk
  have ho:ops[k]? = some o:=by simpa using hl 0 (by simp)
  have hl' : ∀ j,j < rest.length -> ops[k+1+j]? = rest[j]?:=fun j hj=>by
   have:=hl (j+1) (by simp;omega)
   simpa [Nat.add_assoc,Nat.add_comm 1 j] using this
  have key:∃ u,aED P ops ps v J Z o k a u/\jA P ops ps v J Z L rest (k+1) (a.put o.dst u):=by
   simp only [jA] at h
   by_cases hkp:k ∈ ps
   ·rw [if_pos hkp] at h
    exact ⟨v k,.inl ⟨hkp,rfl,h.1.1,h.1.2⟩,h.2⟩
   rw [if_neg hkp] at h
   by_cases hw:Region.wanted o (yielded ops a.tmps)=true
   ·simp only [hw,if_true] at h
    obtain ⟨u,h2,h3⟩:=h
    exact ⟨u,.inr (.inl ⟨hkp,hw,h2⟩),h3⟩
   simp only [dI] at hw
   simp only [hw,bL,if_false] at h
   exact ⟨undef,.inr (.inr ⟨hkp,hw,rfl⟩),h⟩
  obtain ⟨u,hs,hg⟩:=key
  let v1:Nat -> Value:=fun j=>if j=k then u else v0 j
  have e1:∀ j,j < k -> v1 j=v0 j:=fun j hj=>by simp only [v1];rw [if_neg (by omega)]
  have ek:v1 k=u:=by simp [v1]
  have hf1:Fr ops n a0 v1 (· < k) a:=hf.congr (fun j _ hj=>(e1 j hj).symm) (fun _ _=>Iff.rfl)
  have hf2:=hf1.put ht ho (by omega)
  rw [ek] at hf2
  have hf3:Fr ops n a0 v1 (· < k+1) (a.put o.dst u):=hf2.congr (fun _ _ _=>rfl) (fun j _=>by omega)
  obtain ⟨vals,hv,hst,hd⟩:=aGB ht rest (k+1) _ v1 hl' (by omega) hf3 hg
  refine ⟨vals,fun j hj=>(hv j (by omega)).trans (e1 j hj),fun j oj hj hkj hjn => ?_,hd⟩
  by_cases hjk:j=k
  ·subst hjk
   rw [ho] at hj
   cases hj
   refine ⟨a,hf1.congr (fun i _ hi=>(hv i (by omega)).symm) (fun _ _=>Iff.rfl), ?_⟩
   rw [hv j (by omega),ek]
   exact hs
  exact hst j oj hj (by omega) hjn
theorem zB {n:Nat} {ps:List Nat} {v:Nat -> Value} {J:Nat -> World -> Prop} {Z:List PanicEntry -> World -> Prop} {Q:Exit -> Act -> World -> Prop} {tail:List Oper} {a0:Act} (hB:jJ ops n=true) (hps:aEC ops n ps=true) {vals:Nat -> Value}
  (htail:∀ j,tail[j]? = ops[n+j]?) (hT:∀ i w w',J i w -> Below w.heap.size w w' -> J i w')
  (hst:∀ j o,ops[j]? = some o -> j < n -> ∃ b,Fr ops n a0 vals (· < j) b/\aED P ops ps v J Z o j b (vals j)) (hdone:∃ b,Fr ops n a0 vals (· < n) b /\ ∀ w',J ps.length w' -> wpList P ops Q tail b w') (hQ:∀ ch a' w',a'.defers=a0.defers -> Z ch w' -> Q (.panic ch) a' w') :
  ∀ (m:Nat) (listed:Array Bool) (a:Act) (w:World),HeadInv .any ops n listed -> cnt listed n=m ->
   (∃ i,i <= ps.length/\(∀ j p,ps[j]? = some p -> (listed.getD p false=true ↔ j < i))/\J i w) -> Fr ops n a0 vals (fun j=>listed.getD j false=true) a -> wpAny P .any ops Q (m+(ops.size - n)) listed a w:=by
 unfold aEC at hps
 simp only [aN,decide_eq_true_eq,aZ] at hps
 obtain ⟨⟨hpn,hpd⟩,hpe⟩:=hps
 simp only [jJ,aN,bQ,decide_eq_true_eq,beq_iff_eq] at hB
 obtain ⟨⟨⟨⟨⟨hsel,hn⟩,hed⟩,ht⟩,hsc⟩,hseq⟩:=hB
 intro m
 induction m with
 | zero =>
  intro listed a w inv hcnt hpw hfr
  have hlen:tail.length=ops.size - n:=by
   apply dV
   ·by_cases hle:tail.length <= ops.size - n
    ·exact hle
    have h1:=htail (ops.size - n)
    rw [bA (by omega)] at h1
    have:=dD.1 h1
    omega
   by_cases hle:ops.size - n <= tail.length
   ·exact hle
   have h1:=htail tail.length
   rw [aW (aF _)] at h1
   have:=cA.1 h1.symm
   omega
  have hl:∀ j,j < n -> listed.getD j false=true:=fun j hj=>fI (jI n hcnt j hj) (by rw [inv.size];omega)
  have hlist:listed=fP ops.size n:=by
   apply dF
   intro j
   by_cases hj:j < ops.size
   ·have e2:(fP ops.size n)[j]? = some (decide (j < n)):=by simp [fP,hj]
    rw [e2]
    by_cases hjn:j < n
    ·have:=hl j hjn
     rw [bI] at this
     cases hx:listed[j]? with
     | none=>rw [hx] at this;cases this
     | some b=>rw [hx] at this;simp at this;rw [this,decide_eq_true hjn]
    have:=inv.tail j (by omega) hj
    rw [bI] at this
    cases hx:listed[j]? with
    | none=>rw [hx] at this;cases this
    | some b=>rw [hx] at this;simp at this;rw [this,decide_eq_false hjn]
   rw [bA (by rw [inv.size];omega),bA (by simp [fP];omega)]
  have hTw:J ps.length w:=by
   obtain ⟨i,hi,hij,hJ⟩:=hpw
   by_cases e:i=ps.length
   ·rw [<-e];exact hJ
   have hlt:i < ps.length:=by omega
   have h1:=hij i _ (aB hlt)
   have h2:=h1.1 (hl _ (hpn _ (dJ hlt)))
   omega
  obtain ⟨b,hb1,hb2⟩:=hdone
  have hab:a=b:=hfr.eq hb1 fun j hj=>⟨fun _=>hj,fun _=>hl j hj⟩
  subst hab
  have:=wpAny_of_seq (md:=.any) (Q':=Q) tail n listed a w htail (by rw [hlist,hlen];exact hseq) (hb2 w hTw)
  rw [hlen] at this
  rw [bH]
  exact this
 | succ m ih =>
  intro listed a w inv hcnt hpw hfr
  rw [show m+1+(ops.size - n)=(m+(ops.size - n))+1 by omega]
  obtain ⟨k0,hk0,hu0,hless⟩:=jR (listed:=listed) n (by omega)
  have hready0:k0 ∈ Region.ready .any ops listed:=by
   refine mem_ready.2 ⟨hu0,ops[k0],bC (by omega),fun e he hbi => ?_⟩
   have:=iD hed hk0 (bC (by omega)) he hbi
   exact fI (hless _ this) (by rw [inv.size];omega)
  refine ⟨fun h0=>(by rw [h0] at hready0;cases hready0),fun i hi => ?_⟩
  have hin:i < n:=by
   rcases dC i n with h | h
   ·exact h
   rcases hsc with h1 | h1
   ·obtain ⟨_,o,ho,_⟩:=mem_ready.1 hi
    have:=(aS.1 ho).1
    omega
   by_cases hns:n < ops.size
   ·exact absurd hi (tail_waits h1.1 h1.2 hns inv _ k0 rfl hk0 hu0 i h)
   obtain ⟨_,o,ho,_⟩:=mem_ready.1 hi
   have:=(aS.1 ho).1
   omega
  obtain ⟨hun,o,ho,hedge⟩:=mem_ready.1 hi
  have hinv':=inv.set hi hin
  have hcnt' : cnt (listed.setIfInBounds i true) n=m:=by
   have:=(mH (by rw [inv.size];omega) hun n).2 hin
   omega
  have hset:∀ j,(listed.setIfInBounds i true).getD j false=true ↔ (j=i \/ listed.getD j false=true):=fun j=>by
   by_cases e:i=j
   ·subst e
    have:i < listed.size:=by rw [inv.size];omega
    simp [this]
   rw [getD_set_ne false e]
   exact ⟨fun h=>.inr h,fun h=>h.resolve_left (fun e'=>e e'.symm)⟩
  obtain ⟨b,hfb,hstep⟩:=hst i o ho hin
  have hlook:∀ d,d ∈ o.looksAt ops -> a.tmps[d]? = b.tmps[d]?:=fun d hd=>Fr.same ht hfr hfb ho hin (fun j hj he hji=>by
   obtain ⟨oj,hoj,e,hem,hbi,hon⟩:=fT he
   rw [ho] at hoj
   cases hoj
   exact ⟨by rw [<-hon];exact hedge e hem hbi,hji,rfl⟩) d hd
  obtain ⟨ex,ew⟩:=iN (ops:=ops) (o:=o) (fun cs b=>Region.noSelect_spec hsel i o cs b ho) hlook
  obtain ⟨c,hc,hcj,hJ⟩:=hpw
  have next:i ∉ ps -> ∀ (w' : World),Below w.heap.size w w' -> wpAny P .any ops Q (m+(ops.size - n)) (listed.setIfInBounds i true) (a.put o.dst (vals i)) w':=fun hip w' hg=>by
   refine ih _ _ _ hinv' hcnt' ⟨c,hc,fun j p hj => ?_,hT c w w' hJ hg⟩ ((hfr.put ht ho hin).congr (fun _ _ _=>rfl) (fun j _=>(hset j).symm))
   have hne:p ≠ i:=fun e=>hip (by rw [<-e];exact aG hj)
   rw [hset p]
   exact ⟨fun h=>(hcj j p hj).1 (h.resolve_left hne),fun h=>.inr ((hcj j p hj).2 h)⟩
  unfold wpOp
  simp only [ho]
  rw [ew]
  rcases hstep with ⟨hip,hvv,hw,hy⟩ | ⟨hip,hw,hy⟩ | ⟨hip,hw,hv⟩
  ·rw [if_pos hw]
   left
   obtain ⟨q,hq⟩:=bP hip
   have hql:=(aE.1 hq).1
   have hqc:q=c:=by
    have h1:¬ q < c:=fun h=>by
     have:=(hcj q i hq).2 h
     rw [getD_both hun] at this;cases this
    refine dV (Classical.byContradiction fun h2 => ?_) (by omega)
    have hpos:0 < q:=by omega
    have hq1:ps[q - 1]? = some (ps.getD (q - 1) 0):=by rw [aH,aB (by omega)];rfl
    have he:=hpe (q - 1) (cO.2 (by omega))
    rw [show q - 1+1=q by omega] at he
    have hqi:ps.getD q 0=i:=by rw [aH,hq];rfl
    rw [hqi] at he
    obtain ⟨oj,hoj,e,hem,hbi,hon⟩:=fT he
    rw [ho] at hoj
    cases hoj
    have h3:=hedge e hem hbi
    rw [hon] at h3
    have:=(hcj (q - 1) _ hq1).1 h3
    omega
   subst hqc
   have fin:∀ w',J (q+1) w' -> wpAny P .any ops Q (m+(ops.size - n)) (listed.setIfInBounds i true) (a.put o.dst (vals i)) w':=fun w' hJ'=>by
    refine ih _ _ _ hinv' hcnt' ⟨q+1,by omega,fun j p hj => ?_,hJ'⟩ ((hfr.put ht ho hin).congr (fun _ _ _=>rfl) (fun j _=>(hset j).symm))
    rw [hset p]
    constructor
    ·intro h
     rcases h with h | h
     ·have:j=q:=by
       obtain ⟨h1,h2⟩:=aE.1 hj
       obtain ⟨h3,h4⟩:=aE.1 hq
       exact (List.getElem_inj hpd).1 (by rw [h2,h4,h])
      omega
     have:=(hcj j p hj).1 h;omega
    intro h
    by_cases e:j=q
    ·subst e
     rw [hq] at hj
     injection hj with hj
     exact .inl hj.symm
    exact .inr ((hcj j p hj).2 (by omega))
   rcases hy q w hq hJ with ⟨w',hr,hJ'⟩ | ⟨f,args,hr,hcall⟩
   ·unfold Oper.wp
    rw [ex]
    rcases hr with hr | ⟨hr,hv⟩
    ·rw [hr, <-hvv];exact fin w' hJ'
    rw [hr,Oper.upon_skip, <-hv, <-hvv];exact fin w' hJ'
   unfold Oper.wp
   rw [ex,hr,Oper.upon_enter]
   refine hcall.mono fun e w' hz => ?_
   rcases hz with ⟨he,hz⟩ | ⟨ch,he,hz⟩
   ·subst he
    show wpAny P .any ops Q (m+(ops.size - n)) (listed.setIfInBounds i true) (a.put o.dst (v i)) w'
    rw [<-hvv]
    exact fin w' hz
   subst he
   exact hQ ch _ w' hfr.defers hz
  ·rw [if_pos hw]
   left
   obtain ⟨w',hr,hg⟩:=hy c w hJ
   unfold Oper.wp
   rw [ex]
   rcases hr with hr | ⟨hr,hv⟩
   ·rw [hr];exact next hip w' hg
   rw [hr,Oper.upon_skip, <-hv];exact next hip w' hg
  rw [hw]
  simp only [bL,if_false]
  rw [<-hv]
  exact next hip w (Below.refl _ _)
theorem oH {id:Nat} {Q:Exit -> Act -> World -> Prop} {a:Act} {w:World} {l:List Oper} (n:Nat) (ps:List Nat) (v:Nat -> Value) (J:Nat -> World -> Prop) (Z:List PanicEntry -> World -> Prop) (hm:P.follows .mixedOrders=true) (hB:jJ l.toArray n=true) (hps:aEC l.toArray n ps=true)
  (hT:∀ i w w',J i w -> Below w.heap.size w w' -> J i w') (hJ:J 0 w) (hQ:∀ ch a' w',a'.defers=a.defers -> Z ch w' -> Q (.panic ch) a' w') (h:jA P l.toArray ps v J Z (wpList P l.toArray Q (l.drop n)) (l.take n) 0 a):(Code.region id l.toArray true).wp P Q a w:=by
 have hB':=hB
 simp only [jJ,aN,bQ,decide_eq_true_eq,beq_iff_eq] at hB
 obtain ⟨⟨⟨⟨⟨hsel,hn⟩,hed⟩,ht⟩,hsc⟩,hseq⟩:=hB
 have hn' : n <= l.length:=by simpa using hn
 obtain ⟨vals, -,hst,hdone⟩:=aGB (P:=P) (ops:=l.toArray) ht (l.take n) 0 a (fun _=>undef) (fun j hj=>by
  have hj' : j < n:=by simp at hj;omega
  simp [hj']) (by simp;omega) (Fr.start fun j _ hj=>by omega) h
 refine wp_region_any hm ?_
 have inv0:HeadInv .any l.toArray n (Array.replicate l.toArray.size false) :=
  ⟨by simp,fun j oj _ hl=>(by rw [getD_replicate_false] at hl;cases hl),fun t _ ht=>getD_in (by simpa using ht) (getD_replicate_false _ _)⟩
 have hc:∀ m,m <= l.toArray.size -> cnt (Array.replicate l.toArray.size false) m=m:=by
  intro m
  induction m with
  | zero=>intro _;rfl
  | succ m ih =>
   intro hm
   have:(Array.replicate l.toArray.size false).getD m true=false:=getD_in (by simp at hm ⊢;omega) (getD_replicate_false _ _)
   simp only [cnt]
   rw [ih (by omega),this]
   simp
 have:=zB (P:=P) (Q:=Q) (tail:=l.drop n) hB' hps (fun j=>by simp [cH]) hT (fun j o ho hj=>hst j o ho (aP _) hj) hdone hQ n (Array.replicate l.toArray.size false) a w.drew inv0 (hc n hn) ⟨0,aP _,fun j p _=>⟨fun hl=>(by rw [getD_replicate_false] at hl;cases hl),fun h=>(by omega)⟩,hT 0 w w.drew hJ (Below.refl _ w).drew⟩
  (Fr.start fun j _ hl=>by rw [getD_replicate_false] at hl;cases hl)
 rw [show n+(l.toArray.size - n)=l.toArray.size by omega] at this
 exact this
end
def aGC (w:World) (b1 b2 bm:Nat) (h v t:Int) (a0 a1 a2 a3 a4 a5 a6 a7 a8 a9 a10 a11:Value) (i:Nat) (W:World):Prop :=
 Box W b1 #[.pointer (some ⟨bm,0,none⟩)]/\Box W b2 #[.int .i64 h,.int .i64 v,.int .i64 t]/\Box W bm #[if 0 < i then .int .i64 h else a0,if 1 < i then .int .i64 v else a1,a2,a3,a4,a5,a6,a7,a8,a9,a10,a11]/\Off (Foot.one bm) w W
set_option maxRecDepth 100000 in
theorem aGD {w:World} {b1 bm:Nat} {h v t:Int} {a0 a1 a2 a3 a4 a5 a6 a7 a8 a9 a10 a11:Value} (h1:Box w b1 #[.pointer (some ⟨bm,0,none⟩)]) (hM:Box w bm #[a0,a1,a2,a3,a4,a5,a6,a7,a8,a9,a10,a11]) (hne:b1 ≠ bm) :
  CallsD Tryz.prog 80 #[.pointer (some ⟨b1,0,none⟩)] (.panicking [{ v:=.iface 150 (.agg #[.int .i64 h,.int .i64 v,.int .i64 t]),recovered:=false }]) w fun e u' w' =>
   e = .returned (.tuple #[])/\u' = .panicking [{ v:=.iface 150 (.agg #[.int .i64 h,.int .i64 v,.int .i64 t]),recovered:=true }]/\Box w' bm #[.int .i64 h,.int .i64 v,.int .i64 t,a3,a4,a5,a6,a7,a8,a9,a10,a11]/\Off (Foot.one bm) w w':=by
 have hta:∀ (a:Array Value) (w:World),(Instr.typeAssert (.iface 150 (.agg a)) 20 150 true).run Tryz.prog w = .ok (.tuple #[.agg a,.bool true]) w:=fun a w=>by kernel_rfl
 refine callsD_of_wpS Tryz.func80 rfl fun c₀ cs hu => ?_
 have H1:=h! h1
 have HM:=h! hM
 have N1:=h! hne
 clear h1 hM hne
 apply wpS_seq
 apply wpS_region
 simp [wpOpsS,go_sem,recoverD,hu,Tryz.ntmps80,Exit.thenS,Array.replicate,List.replicate]
 refine wpS_of_wp ?_
 go_upto_region 4 with (fail)
 clear hta hu
 have H10:=h! (H1.out.alloc (.cells #[.int .i64 h,.int .i64 v,.int .i64 t] 150))
 have HM0:=h! (HM.out.alloc (.cells #[.int .i64 h,.int .i64 v,.int .i64 t] 150))
 have H20:=h! (Box.new w #[.int .i64 h,.int .i64 v,.int .i64 t] 150)
 have HO0:Hid (Off (Foot.one bm) w (w.alloc (.cells #[.int .i64 h,.int .i64 v,.int .i64 t] 150))):=h! (Off.alloc _ _ _)
 have hml:=HM.out.lt
 obtain ⟨b2,hb2⟩ : ∃ b2,b2=w.heap.size:=⟨_,rfl⟩
 have N2:Hid (b2 ≠ bm):=h! (by omega)
 rw [<-hb2] at H20 ⊢
 generalize w.alloc (.cells #[.int .i64 h,.int .i64 v,.int .i64 t] 150)=w1 at *
 clear hb2 hml
 refine oH 17 [12,16] (fun _=>undef) (aGC w b1 b2 bm h v t a0 a1 a2 a3 a4 a5 a6 a7 a8 a9 a10 a11) (fun _ _=>False) (by kernel_rfl) (by kernel_rfl) (by kernel_rfl) (fun i W W' hJ hb => ?_) ?_ (fun _ _ _ _ hz=>hz.elim) ?_
 ·obtain ⟨k1,k2,k3,k4⟩:=hJ
  exact ⟨k1.later hb,k2.later hb,k3.later hb,k4.trans (Off.of_below hb _)⟩
 ·exact ⟨H10.out,H20.out,HM0.out,HO0.out⟩
 simp only [aK,aR,aM,aT]
 iterate 12 ((refine jA.val (u := ?_) (by decide) rfl (fun i wg hJ => ?_) ?_);(rotate_left);(focus (obtain ⟨⟨l1,c1,f1⟩,⟨l2,c2,f2⟩, -, -⟩:=hJ;first | (go_simp;done) | (go_simp;with_reducible rfl)));(simp only [Act.put,aA,aC,aD]))
 refine jA.turn 0 rfl (by decide) rfl rfl (fun wg hJ => ?_) ?_
 ·obtain ⟨h1,h2,h3,h4⟩:=hJ
  have hX:=h! (And.intro h1 (And.intro h2 (And.intro h3 h4)))
  obtain ⟨lm,cm,fm⟩:=h3
  refine ⟨wg.setCell ⟨bm,0,none⟩ (.int .i64 h), ?_, ?_⟩
  ·clear h1 h2 h4
   first | (go_simp;done) | (go_simp;with_reducible rfl)
  obtain ⟨h1,h2,h3,h4⟩:=hX.out
  refine ⟨h1.other (p:=⟨bm,0,none⟩) _ N1.out,h2.other (p:=⟨bm,0,none⟩) _ N2.out,by simpa using h3.set 0 (.int .i64 h),h4.trans (Off.set wg ⟨bm,0,none⟩ _)⟩
 simp only [Act.put,aA,aC,aD]
 iterate 3 ((refine jA.val (u := ?_) (by decide) rfl (fun i wg hJ => ?_) ?_);(rotate_left);(focus (obtain ⟨⟨l1,c1,f1⟩,⟨l2,c2,f2⟩, -, -⟩:=hJ;first | (go_simp;done) | (go_simp;with_reducible rfl)));(simp only [Act.put,aA,aC,aD]))
 refine jA.turn 1 rfl (by decide) rfl rfl (fun wg hJ => ?_) ?_
 ·obtain ⟨h1,h2,h3,h4⟩:=hJ
  have hX:=h! (And.intro h1 (And.intro h2 (And.intro h3 h4)))
  obtain ⟨lm,cm,fm⟩:=h3
  refine ⟨wg.setCell ⟨bm,1,none⟩ (.int .i64 v), ?_, ?_⟩
  ·clear h1 h2 h4
   first | (go_simp;done) | (go_simp;with_reducible rfl)
  obtain ⟨h1,h2,h3,h4⟩:=hX.out
  refine ⟨h1.other (p:=⟨bm,1,none⟩) _ N1.out,h2.other (p:=⟨bm,1,none⟩) _ N2.out,by simpa using h3.set 1 (.int .i64 v),h4.trans (Off.set wg ⟨bm,1,none⟩ _)⟩
 simp only [Act.put,aA,aC,aD]
 rintro w9 ⟨k1,k2,k3,k4⟩
 have K3:=h! k3
 have K4:=h! k4
 simp only [bB,cD] at k3
 obtain ⟨lm,cm,fm⟩:=k3
 clear k1 k2 k4
 go_wp2
 have KB:Hid (Box (w9.setCell ⟨bm,2,none⟩ (.int .i64 t)) bm #[.int .i64 h,.int .i64 v,.int .i64 t,a3,a4,a5,a6,a7,a8,a9,a10,a11]):=h! (by simpa using K3.out.set 2 (.int .i64 t))
 have KO:Hid (Off (Foot.one bm) w (w9.setCell ⟨bm,2,none⟩ (.int .i64 t))):=h! (K4.out.trans (Off.set w9 ⟨bm,2,none⟩ _))
 clear lm cm fm
 generalize w9.setCell ⟨bm,2,none⟩ (.int .i64 t)=w10 at *
 simp [bodyPostS,results,Tryz.results80]
 trace_state
 exact ⟨KB.out,KO.out⟩
theorem zC {f:FuncD} (hn:1 <= f.blocks.length) {e:Int × Int × Int} (he:e ∈ entF f):0 <= e.2.1/\e.2.1 < (f.blocks.length:Int):=by
 unfold entF at he
 rcases aO.1 he with he | he
 ·unfold parN at he
  rw [aY] at he
  obtain ⟨j,_,rfl⟩:=he
  exact ⟨by show (0:Int) <= 0;omega,by show (0:Int) < _;omega⟩
 unfold blkN at he
 rw [bK] at he
 obtain ⟨⟨x,c⟩,hx,he⟩:=he
 rw [cM,bS] at hx
 have hc:c < f.blocks.length:=(aE.1 hx).1
 unfold entB at he
 have hd:e.2.1=(c:Int):=by
  rcases aO.1 he with he | he
  ·unfold phiN at he
   rw [aY] at he
   obtain ⟨p,_,rfl⟩:=he
   rfl
  unfold codN at he
  rw [List.mem_filterMap] at he
  obtain ⟨y,_,hy⟩:=he
  split at hy
  ·cases hy;rfl
  cases hy
 rw [hd]
 omega
theorem mQ {f:FuncD} (hc:eL f=0) {u:UseD} (hu:u ∈ uxF f):∃ d k,((entF f).find? fun e=>e.1 == u.id)=some (u.id,d,k)/\0 <= d/\d < (f.blocks.length:Int):=by
 obtain ⟨h1,h2⟩:=eS hc
 have hev:=kF h1
 have hp:u.pair ∈ jD f:=by rw [<-uR hev];exact aY.2 ⟨u,hu,rfl⟩
 have h3:kI (eR f) (jD f)=0:=by
  unfold eL at hc
  rw [if_pos (by rw [h1,h2];rfl)] at hc
  exact hc
 have h4:(jD f).any (fun u => !(tyOf (eR f) u.1).isSome)=false:=by
  unfold kI at h3
  cases h:(jD f).any (fun u => !(tyOf (eR f) u.1).isSome) with
  | false=>rfl
  | true=>rw [h,if_pos rfl] at h3;omega
 rw [List.any_eq_false] at h4
 have h5:=h4 u.pair hp
 have h6:u.id ∈ (entF f).map (·.1):=by
  rw [qN hc]
  refine Classical.byContradiction fun h => ?_
  have h7:=jS.2 h
  have h8:u.pair.1=u.id:=rfl
  rw [h8,h7] at h5
  exact h5 rfl
 obtain ⟨e,he,hid⟩:=aY.1 h6
 cases hf:((entF f).find? fun e=>e.1 == u.id) with
 | none =>
  rw [List.find?_eq_none] at hf
  exact absurd (by simp [hid]) (hf e he)
 | some e2 =>
  have h9:=List.find?_some hf
  have h10:=eB hf
  simp only [beq_iff_eq] at h9
  obtain ⟨r1,r2⟩:=zC (gV h1).1 h10
  obtain ⟨i,d,k⟩:=e2
  simp only at h9
  subst h9
  exact ⟨d,k,rfl,r1,r2⟩
theorem rK {f:FuncD} (h:gM f=true) {u:UseD} (hu:u ∈ uxF f):0 <= u.blk/\u.blk < (f.blocks.length:Int)/\(u.pos < 0 -> 0 <= u.src/\u.src < (f.blocks.length:Int)):=by
 unfold uxF at hu
 rw [bK] at hu
 obtain ⟨⟨x,c⟩,hx,hu⟩:=hu
 have hx2:=hx
 rw [bS] at hx
 have hc:c < f.blocks.length:=(aE.1 hx).1
 unfold gM at h
 simp only [aN,aZ] at h
 have hok:=h.2 (x,c) hx2
 unfold fN at hok
 simp only [aN,aZ] at hok
 unfold uxB at hu
 rw [bV] at hu
 rcases aO.1 hu with hu | hu
 ·rw [bK] at hu
  obtain ⟨p,hp,hu⟩:=hu
  have hpk:=hok.1.1.2 p hp
  unfold iR at hpk
  simp only [aN,aZ] at hpk
  unfold uxP at hu
  rw [aY] at hu
  obtain ⟨vs,hvs,rfl⟩:=hu
  have hs:=List.of_mem_zip hvs
  have hn:=hpk.1.2 vs.2 hs.2
  unfold numB at hn
  simp at hn
  exact ⟨by show (0:Int) <= (c:Int);omega,by show (c:Int) < _;omega,fun _=>hn⟩
 rcases aO.1 hu with hu | hu
 ·rw [bK] at hu
  obtain ⟨yk,hy,hu⟩:=hu
  unfold uxI at hu
  rw [aY] at hu
  obtain ⟨a,ha,rfl⟩:=hu
  exact ⟨by show (0:Int) <= (c:Int);omega,by show (c:Int) < _;omega,fun h=>by exfalso;have h:((yk.2:Nat):Int) < 0:=h;omega⟩
 unfold uxT at hu
 split at hu
 ·simp at hu
  subst hu
  exact ⟨by show (0:Int) <= (c:Int);omega,by show (c:Int) < _;omega,fun h=>by exfalso;have h:((x.code.length:Nat):Int) < 0:=h;omega⟩
 split at hu
 ·simp at hu
  subst hu
  exact ⟨by show (0:Int) <= (c:Int);omega,by show (c:Int) < _;omega,fun h=>by exfalso;have h:((x.code.length:Nat):Int) < 0:=h;omega⟩
 simp at hu
def gI (f:FuncD) (u:UseD):Prop := ∃ d k,((entF f).find? fun e=>e.1 == u.id)=some (u.id,d,k) /\
 ((u.pos < 0/\jX f d.toNat u.src.toNat) \/ (¬ u.pos < 0/\kQ f d k u.blk u.pos))
def fM (f : FuncD) (b e : Int) : Prop :=
  (∃ c : Nat, c < f.blocks.length ∧ ¬ Way (toB f) (-1) c ∧ (∀ d, d < c → Way (toB f) (-1) d) ∧ b = c ∧ e = 4) ∨
  ((∀ d, d < f.blocks.length → Way (toB f) (-1) d) ∧
    ((∃ (c : Nat) (x : BlockD), f.blocks[c]? = some x ∧ x.phis.all (fJ (natI (fO f f.blocks.length 0 c))) = false ∧ (∀ (d : Nat) (y : BlockD), d < c → f.blocks[d]? = some y → y.phis.all (fJ (natI (fO f f.blocks.length 0 d))) = true) ∧ b = c ∧ e = 5) ∨
     ((∀ (d : Nat) (y : BlockD), f.blocks[d]? = some y → y.phis.all (fJ (natI (fO f f.blocks.length 0 d))) = true) ∧
      ((∃ (i : Nat) (u : UseD), (uxF f)[i]? = some u ∧ ¬ gI f u ∧ (∀ v ∈ (uxF f).take i, gI f v) ∧ b = u.blk ∧ e = 6) ∨
       ((∀ v ∈ uxF f, gI f v) ∧ b = 0 ∧ e = 0)))))
theorem aBV {f:FuncD}:fM f 0 0 ↔ (∀ d,d < f.blocks.length -> Way (toB f) (-1) d)/\(∀ (d:Nat) (y:BlockD),f.blocks[d]? = some y -> y.phis.all (fJ (natI (fO f f.blocks.length 0 d)))=true) /\ ∀ v ∈ uxF f,gI f v:=by
 unfold fM
 constructor
 ·rintro (⟨c, -, -, -, -,h⟩ | ⟨h1,⟨c,x, -, -, -, -,h⟩ | ⟨h2,⟨i,u, -, -, -, -,h⟩ | ⟨h3, -, -⟩⟩⟩)
  ·cases h
  ·cases h
  ·cases h
  exact ⟨h1,h2,h3⟩
 rintro ⟨h1,h2,h3⟩
 exact .inr ⟨h1,.inr ⟨h2,.inr ⟨h3,rfl,rfl⟩⟩⟩
theorem aBW {f:FuncD} {i:Nat} (h:f.blocks.length <= i):toB f i=[]:=by
 unfold toB
 rw [aH,aW h];rfl
theorem aH4 {f:FuncD} (hf:gM f=true) {i v:Nat} (h:v ∈ toB f i):v < f.blocks.length/\1 <= v/\i < f.blocks.length:=by
 have hi:i < f.blocks.length:=Classical.byContradiction fun h2=>by rw [aBW (by omega)] at h;cases h
 obtain ⟨y,hy⟩ : ∃ y,f.blocks[i]? = some y:=⟨_,aB hi⟩
 rw [oN hy,aY] at h
 obtain ⟨q,hq,rfl⟩:=h
 have:=mV hf hy q hq
 exact ⟨by omega,by omega,hi⟩
section
variable {f:FuncD} {b k t:Nat} {x:BlockD} {still:Bool}
end
end Go.Proofs.YtcmflfkpeodicaaGreat
