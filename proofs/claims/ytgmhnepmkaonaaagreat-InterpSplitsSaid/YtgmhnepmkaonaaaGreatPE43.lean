/- Part 43. -/
import Derived.Test.YtgmhnepmkaonaaaGreatPE35
import Derived.Defers
import Derived.Recover
import Derived.Test.YtgmhnepmkaonaaaGreatPE42
import Derived.Test.YtgmhnepmkaonaaaGreatPE39
namespace Go.Proofs.YtgmhnepmkaonaaaGreat
set_option maxHeartbeats 6400000
set_option linter.all false
open Go.RowKit
section
variable {P:Program} {ops:Array Oper}
def Oper.links (P:Program) (o:Oper) (a:Act) (w:World) (v:Value) (J:World -> Prop) (Z:List PanicEntry -> World -> Prop):Prop :=
 (∃ w',((execOp a.eval o).run P w = .ok (.value v) w' \/ ((execOp a.eval o).run P w = .ok .skip w' /\ v=undef))/\J w') \/
 ∃ f args,(execOp a.eval o).run P w = .ok (.enter f args) w/\Calls P f args w fun e w'=>(e = .returned v/\J w') \/ ∃ ch,e = .panicked ch/\Z ch w'
def aFX (ops:Array Oper) (n:Nat) (ps:List Nat):Bool:=(ps.all fun p=>decide (p < n)) && decide ps.Nodup && (List.range (ps.length - 1)).all fun j=>gX ops (ps.getD (j+1) 0) (ps.getD j 0)
def jK (P:Program) (ops:Array Oper) (ps:List Nat) (v:Nat -> Value) (J:Nat -> World -> Prop) (Z:List PanicEntry -> World -> Prop) (L:Act -> World -> Prop):List Oper -> Nat -> Act -> Prop
 | [],_,a => ∀ w',J ps.length w' -> L a w'
 | o :: rest,k,a =>
  if k ∈ ps then (Region.wanted o (yielded ops a.tmps)=true /\ ∀ i w',ps[i]? = some k -> J i w' -> Oper.links P o a w' (v k) (J (i+1)) Z)/\jK P ops ps v J Z L rest (k+1) (a.put o.dst (v k))
  else if Region.wanted o (yielded ops a.tmps) then ∃ u,(∀ i w',J i w' -> Oper.yields P o a w' u)/\jK P ops ps v J Z L rest (k+1) (a.put o.dst u)
  else jK P ops ps v J Z L rest (k+1) (a.put o.dst undef)
section
variable {ps:List Nat} {v:Nat -> Value} {J:Nat -> World -> Prop} {Z:List PanicEntry -> World -> Prop} {L:Act -> World -> Prop} {o:Oper} {rest:List Oper} {k:Nat} {a:Act}
theorem jK.val {u:Value} (hk:k ∉ ps) (hg:Region.wanted o (yielded ops a.tmps)=true) (hy:∀ i w',J i w' -> (execOp a.eval o).run P w' = .ok (.value u) w') (h:jK P ops ps v J Z L rest (k+1) (a.put o.dst u)):jK P ops ps v J Z L (o :: rest) k a:=by
 simp only [jK,hg,if_true,if_neg hk]
 exact ⟨u,fun i w' h1=>⟨w',.inl (hy i w' h1),Below.refl _ _⟩,h⟩
theorem jK.skip (hk:k ∉ ps) (hg:Region.wanted o (yielded ops a.tmps)=false) (h:jK P ops ps v J Z L rest (k+1) (a.put o.dst undef)):jK P ops ps v J Z L (o :: rest) k a:=by
 simp only [jK,hg,if_neg hk]
 exact h
theorem jK.turn (i:Nat) (hk:ps[i]? = some k) (hn:ps.Nodup) (hv:v k=undef) (hg:Region.wanted o (yielded ops a.tmps)=true) (hy:∀ w',J i w' -> ∃ w'',(execOp a.eval o).run P w' = .ok .skip w'' /\ J (i+1) w'')
  (h:jK P ops ps v J Z L rest (k+1) (a.put o.dst undef)):jK P ops ps v J Z L (o :: rest) k a:=by
 simp only [jK,if_pos (aG hk)]
 refine ⟨⟨hg,fun j w' hj hw => ?_⟩,by rw [hv];exact h⟩
 have:j=i:=by
  obtain ⟨h1,h2⟩:=aD.1 hk
  obtain ⟨h3,h4⟩:=aD.1 hj
  exact (List.getElem_inj hn).1 (by rw [h2,h4])
 subst this
 obtain ⟨w'',h1,h2⟩:=hy w' hw
 exact .inl ⟨w'',.inr ⟨h1,hv⟩,h2⟩
theorem jK.call (i:Nat) {f:FuncId} {args:Array Value} (hk:ps[i]? = some k) (hn:ps.Nodup) (hg:Region.wanted o (yielded ops a.tmps)=true) (hrun:∀ w' : World,(execOp a.eval o).run P w' = .ok (.enter f args) w')
  (hy:∀ w',J i w' -> Calls P f args w' fun e w''=>(e = .returned (v k)/\J (i+1) w'') \/ ∃ ch,e = .panicked ch/\Z ch w'')
  (h:jK P ops ps v J Z L rest (k+1) (a.put o.dst (v k))):jK P ops ps v J Z L (o :: rest) k a:=by
 simp only [jK,if_pos (aG hk)]
 refine ⟨⟨hg,fun j w' hj hw => ?_⟩,h⟩
 have:j=i:=by
  obtain ⟨h1,h2⟩:=aD.1 hk
  obtain ⟨h3,h4⟩:=aD.1 hj
  exact (List.getElem_inj hn).1 (by rw [h2,h4])
 subst this
 exact .inr ⟨f,args,hrun w',hy w' hw⟩
end
def aFY (P:Program) (ops:Array Oper) (ps:List Nat) (v:Nat -> Value) (J:Nat -> World -> Prop) (Z:List PanicEntry -> World -> Prop) (o:Oper) (k:Nat) (a:Act) (u:Value):Prop :=
 (k ∈ ps/\u=v k/\Region.wanted o (yielded ops a.tmps)=true /\ ∀ i w',ps[i]? = some k -> J i w' -> Oper.links P o a w' (v k) (J (i+1)) Z) \/
 (k ∉ ps/\Region.wanted o (yielded ops a.tmps)=true /\ ∀ i w',J i w' -> Oper.yields P o a w' u) \/
 (k ∉ ps/\Region.wanted o (yielded ops a.tmps)=false/\u=undef)
theorem aHO {n:Nat} {ps:List Nat} {v:Nat -> Value} {J:Nat -> World -> Prop} {Z:List PanicEntry -> World -> Prop} {L:Act -> World -> Prop} {a0:Act} (ht:jW ops n=true) :
  ∀ (l:List Oper) (k:Nat) (a:Act) (v0:Nat -> Value),(∀ j,j < l.length -> ops[k+j]? = l[j]?) -> k+l.length=n -> Fr ops n a0 v0 (· < k) a -> jK P ops ps v J Z L l k a ->
   ∃ vals:Nat -> Value,(∀ j,j < k -> vals j=v0 j)/\(∀ j o,ops[j]? = some o -> k <= j -> j < n -> ∃ b,Fr ops n a0 vals (· < j) b/\aFY P ops ps v J Z o j b (vals j)) /\
    ∃ b,Fr ops n a0 vals (· < n) b /\ ∀ w',J ps.length w' -> L b w'
 | [],k,a,v0,_,hk,hf,h=>by
  have hk' : k=n:=by simpa using hk
  subst hk'
  exact ⟨v0,fun _ _=>rfl,fun j o _ h1 h2=>by omega,a,hf,h⟩
 | o :: rest,k,a,v0,hl,hk,hf,h=>by
  simp only [bB] at hk
  have ho:ops[k]? = some o:=by simpa using hl 0 (by simp)
  have hl' : ∀ j,j < rest.length -> ops[k+1+j]? = rest[j]?:=fun j hj=>by
   have:=hl (j+1) (by simp;omega)
   simpa [Nat.add_assoc,Nat.add_comm 1 j] using this
  have key:∃ u,aFY P ops ps v J Z o k a u/\jK P ops ps v J Z L rest (k+1) (a.put o.dst u):=by
   simp only [jK] at h
   by_cases hkp:k ∈ ps
   ·rw [if_pos hkp] at h
    exact ⟨v k,.inl ⟨hkp,rfl,h.1.1,h.1.2⟩,h.2⟩
   rw [if_neg hkp] at h
   by_cases hw:Region.wanted o (yielded ops a.tmps)=true
   ·simp only [hw,if_true] at h
    obtain ⟨u,h2,h3⟩:=h
    exact ⟨u,.inr (.inl ⟨hkp,hw,h2⟩),h3⟩
   simp only [dJ] at hw
   simp only [hw,bE,if_false] at h
   exact ⟨undef,.inr (.inr ⟨hkp,hw,rfl⟩),h⟩
  obtain ⟨u,hs,hg⟩:=key
  let v1:Nat -> Value:=fun j=>if j=k then u else v0 j
  have e1:∀ j,j < k -> v1 j=v0 j:=fun j hj=>by simp only [v1];rw [if_neg (by omega)]
  have ek:v1 k=u:=by simp [v1]
  have hf1:Fr ops n a0 v1 (· < k) a:=hf.congr (fun j _ hj=>(e1 j hj).symm) (fun _ _=>Iff.rfl)
  have hf2:=hf1.put ht ho (by omega)
  rw [ek] at hf2
  have hf3:Fr ops n a0 v1 (· < k+1) (a.put o.dst u):=hf2.congr (fun _ _ _=>rfl) (fun j _=>by omega)
  obtain ⟨vals,hv,hst,hd⟩:=aHO ht rest (k+1) _ v1 hl' (by omega) hf3 hg
  refine ⟨vals,fun j hj=>(hv j (by omega)).trans (e1 j hj),fun j oj hj hkj hjn => ?_,hd⟩
  by_cases hjk:j=k
  ·subst hjk
   rw [ho] at hj
   cases hj
   refine ⟨a,hf1.congr (fun i _ hi=>(hv i (by omega)).symm) (fun _ _=>Iff.rfl), ?_⟩
   rw [hv j (by omega),ek]
   exact hs
  exact hst j oj hj (by omega) hjn
theorem aA7 {n:Nat} {ps:List Nat} {v:Nat -> Value} {J:Nat -> World -> Prop} {Z:List PanicEntry -> World -> Prop} {Q:Exit -> Act -> World -> Prop} {tail:List Oper} {a0:Act} (hB:iP ops n=true) (hps:aFX ops n ps=true) {vals:Nat -> Value}
  (htail:∀ j,tail[j]? = ops[n+j]?) (hT:∀ i w w',J i w -> Below w.heap.size w w' -> J i w')
  (hst:∀ j o,ops[j]? = some o -> j < n -> ∃ b,Fr ops n a0 vals (· < j) b/\aFY P ops ps v J Z o j b (vals j)) (hdone:∃ b,Fr ops n a0 vals (· < n) b /\ ∀ w',J ps.length w' -> wpList P ops Q tail b w') (hQ:∀ ch a' w',a'.defers=a0.defers -> Z ch w' -> Q (.panic ch) a' w') :
  ∀ (m:Nat) (listed:Array Bool) (a:Act) (w:World),HeadInv .any ops n listed -> cnt listed n=m ->
   (∃ i,i <= ps.length/\(∀ j p,ps[j]? = some p -> (listed.getD p false=true ↔ j < i))/\J i w) -> Fr ops n a0 vals (fun j=>listed.getD j false=true) a -> wpAny P .any ops Q (m+(ops.size - n)) listed a w:=by
 unfold aFX at hps
 simp only [aI,decide_eq_true_eq,aU] at hps
 obtain ⟨⟨hpn,hpd⟩,hpe⟩:=hps
 simp only [iP,aI,bU,decide_eq_true_eq,beq_iff_eq] at hB
 obtain ⟨⟨⟨⟨⟨hsel,hn⟩,hed⟩,ht⟩,hsc⟩,hseq⟩:=hB
 intro m
 induction m with
 | zero =>
  intro listed a w inv hcnt hpw hfr
  have hlen:tail.length=ops.size - n:=by
   apply dR
   ·by_cases hle:tail.length <= ops.size - n
    ·exact hle
    have h1:=htail (ops.size - n)
    rw [aT (by omega)] at h1
    have:=cW.1 h1
    omega
   by_cases hle:ops.size - n <= tail.length
   ·exact hle
   have h1:=htail tail.length
   rw [aX (aB _)] at h1
   have:=bQ.1 h1.symm
   omega
  have hl:∀ j,j < n -> listed.getD j false=true:=fun j hj=>fG (i7 n hcnt j hj) (by rw [inv.size];omega)
  have hlist:listed=fJ ops.size n:=by
   apply cZ
   intro j
   by_cases hj:j < ops.size
   ·have e2:(fJ ops.size n)[j]? = some (decide (j < n)):=by simp [fJ,hj]
    rw [e2]
    by_cases hjn:j < n
    ·have:=hl j hjn
     rw [bC] at this
     cases hx:listed[j]? with
     | none=>rw [hx] at this;cases this
     | some b=>rw [hx] at this;simp at this;rw [this,decide_eq_true hjn]
    have:=inv.tail j (by omega) hj
    rw [bC] at this
    cases hx:listed[j]? with
    | none=>rw [hx] at this;cases this
    | some b=>rw [hx] at this;simp at this;rw [this,decide_eq_false hjn]
   rw [aT (by rw [inv.size];omega),aT (by simp [fJ];omega)]
  have hTw:J ps.length w:=by
   obtain ⟨i,hi,hij,hJ⟩:=hpw
   by_cases e:i=ps.length
   ·rw [<-e];exact hJ
   have hlt:i < ps.length:=by omega
   have h1:=hij i _ (aC hlt)
   have h2:=h1.1 (hl _ (hpn _ (dV hlt)))
   omega
  obtain ⟨b,hb1,hb2⟩:=hdone
  have hab:a=b:=hfr.eq hb1 fun j hj=>⟨fun _=>hj,fun _=>hl j hj⟩
  subst hab
  have:=wpAny_of_seq (md:=.any) (Q':=Q) tail n listed a w htail (by rw [hlist,hlen];exact hseq) (hb2 w hTw)
  rw [hlen] at this
  rw [bG]
  exact this
 | succ m ih =>
  intro listed a w inv hcnt hpw hfr
  rw [show m+1+(ops.size - n)=(m+(ops.size - n))+1 by omega]
  obtain ⟨k0,hk0,hu0,hless⟩:=i8 (listed:=listed) n (by omega)
  have hready0:k0 ∈ Region.ready .any ops listed:=by
   refine mem_ready.2 ⟨hu0,ops[k0],aW (by omega),fun e he hbi => ?_⟩
   have:=gT hed hk0 (aW (by omega)) he hbi
   exact fG (hless _ this) (by rw [inv.size];omega)
  refine ⟨fun h0=>(by rw [h0] at hready0;cases hready0),fun i hi => ?_⟩
  have hin:i < n:=by
   rcases cS i n with h | h
   ·exact h
   rcases hsc with h1 | h1
   ·obtain ⟨_,o,ho,_⟩:=mem_ready.1 hi
    have:=(aL.1 ho).1
    omega
   by_cases hns:n < ops.size
   ·exact absurd hi (tail_waits h1.1 h1.2 hns inv _ k0 rfl hk0 hu0 i h)
   obtain ⟨_,o,ho,_⟩:=mem_ready.1 hi
   have:=(aL.1 ho).1
   omega
  obtain ⟨hun,o,ho,hedge⟩:=mem_ready.1 hi
  have hinv':=inv.set hi hin
  have hcnt' : cnt (listed.setIfInBounds i true) n=m:=by
   have:=(kS (by rw [inv.size];omega) hun n).2 hin
   omega
  have hset:∀ j,(listed.setIfInBounds i true).getD j false=true ↔ (j=i \/ listed.getD j false=true):=fun j=>by
   by_cases e:i=j
   ·subst e
    have:i < listed.size:=by rw [inv.size];omega
    simp [this]
   rw [getD_set_ne false e]
   exact ⟨fun h=>.inr h,fun h=>h.resolve_left (fun e'=>e e'.symm)⟩
  obtain ⟨b,hfb,hstep⟩:=hst i o ho hin
  have hlook:∀ d,d ∈ o.looksAt ops -> a.tmps[d]? = b.tmps[d]?:=fun d hd=>Fr.same ht hfr hfb ho hin (fun j hj he hji=>by
   obtain ⟨oj,hoj,e,hem,hbi,hon⟩:=fK he
   rw [ho] at hoj
   cases hoj
   exact ⟨by rw [<-hon];exact hedge e hem hbi,hji,rfl⟩) d hd
  obtain ⟨ex,ew⟩:=gO (ops:=ops) (o:=o) (fun cs b=>Region.noSelect_spec hsel i o cs b ho) hlook
  obtain ⟨c,hc,hcj,hJ⟩:=hpw
  have next:i ∉ ps -> ∀ (w' : World),Below w.heap.size w w' -> wpAny P .any ops Q (m+(ops.size - n)) (listed.setIfInBounds i true) (a.put o.dst (vals i)) w':=fun hip w' hg=>by
   refine ih _ _ _ hinv' hcnt' ⟨c,hc,fun j p hj => ?_,hT c w w' hJ hg⟩ ((hfr.put ht ho hin).congr (fun _ _ _=>rfl) (fun j _=>(hset j).symm))
   have hne:p ≠ i:=fun e=>hip (by rw [<-e];exact aG hj)
   rw [hset p]
   exact ⟨fun h=>(hcj j p hj).1 (h.resolve_left hne),fun h=>.inr ((hcj j p hj).2 h)⟩
  unfold wpOp
  simp only [ho]
  rw [ew]
  rcases hstep with ⟨hip,hvv,hw,hy⟩ | ⟨hip,hw,hy⟩ | ⟨hip,hw,hv⟩
  ·rw [if_pos hw]
   left
   obtain ⟨q,hq⟩:=cU hip
   have hql:=(aD.1 hq).1
   have hqc:q=c:=by
    have h1:¬ q < c:=fun h=>by
     have:=(hcj q i hq).2 h
     rw [getD_both hun] at this;cases this
    refine dR (Classical.byContradiction fun h2 => ?_) (by omega)
    have hpos:0 < q:=by omega
    have hq1:ps[q - 1]? = some (ps.getD (q - 1) 0):=by rw [aH,aC (by omega)];rfl
    have he:=hpe (q - 1) (cN.2 (by omega))
    rw [show q - 1+1=q by omega] at he
    have hqi:ps.getD q 0=i:=by rw [aH,hq];rfl
    rw [hqi] at he
    obtain ⟨oj,hoj,e,hem,hbi,hon⟩:=fK he
    rw [ho] at hoj
    cases hoj
    have h3:=hedge e hem hbi
    rw [hon] at h3
    have:=(hcj (q - 1) _ hq1).1 h3
    omega
   subst hqc
   have fin:∀ w',J (q+1) w' -> wpAny P .any ops Q (m+(ops.size - n)) (listed.setIfInBounds i true) (a.put o.dst (vals i)) w':=fun w' hJ'=>by
    refine ih _ _ _ hinv' hcnt' ⟨q+1,by omega,fun j p hj => ?_,hJ'⟩ ((hfr.put ht ho hin).congr (fun _ _ _=>rfl) (fun j _=>(hset j).symm))
    rw [hset p]
    constructor
    ·intro h
     rcases h with h | h
     ·have:j=q:=by
       obtain ⟨h1,h2⟩:=aD.1 hj
       obtain ⟨h3,h4⟩:=aD.1 hq
       exact (List.getElem_inj hpd).1 (by rw [h2,h4,h])
      omega
     have:=(hcj j p hj).1 h;omega
    intro h
    by_cases e:j=q
    ·subst e
     rw [hq] at hj
     injection hj with hj
     exact .inl hj.symm
    exact .inr ((hcj j p hj).2 (by omega))
   rcases hy q w hq hJ with ⟨w',hr,hJ'⟩ | ⟨f,args,hr,hcall⟩
   ·unfold Oper.wp
    rw [ex]
    rcases hr with hr | ⟨hr,hv⟩
    ·rw [hr, <-hvv];exact fin w' hJ'
    rw [hr,Oper.upon_skip, <-hv, <-hvv];exact fin w' hJ'
   unfold Oper.wp
   rw [ex,hr,Oper.upon_enter]
   refine hcall.mono fun e w' hz => ?_
   rcases hz with ⟨he,hz⟩ | ⟨ch,he,hz⟩
   ·subst he
    show wpAny P .any ops Q (m+(ops.size - n)) (listed.setIfInBounds i true) (a.put o.dst (v i)) w'
    rw [<-hvv]
    exact fin w' hz
   subst he
   exact hQ ch _ w' hfr.defers hz
  ·rw [if_pos hw]
   left
   obtain ⟨w',hr,hg⟩:=hy c w hJ
   unfold Oper.wp
   rw [ex]
   rcases hr with hr | ⟨hr,hv⟩
   ·rw [hr];exact next hip w' hg
   rw [hr,Oper.upon_skip, <-hv];exact next hip w' hg
  rw [hw]
  simp only [bE,if_false]
  rw [<-hv]
  exact next hip w (Below.refl _ _)
theorem o7 {id:Nat} {Q:Exit -> Act -> World -> Prop} {a:Act} {w:World} {l:List Oper} (n:Nat) (ps:List Nat) (v:Nat -> Value) (J:Nat -> World -> Prop) (Z:List PanicEntry -> World -> Prop) (hm:P.follows .mixedOrders=true) (hB:iP l.toArray n=true) (hps:aFX l.toArray n ps=true)
  (hT:∀ i w w',J i w -> Below w.heap.size w w' -> J i w') (hJ:J 0 w) (hQ:∀ ch a' w',a'.defers=a.defers -> Z ch w' -> Q (.panic ch) a' w') (h:jK P l.toArray ps v J Z (wpList P l.toArray Q (l.drop n)) (l.take n) 0 a):(Code.region id l.toArray true).wp P Q a w:=by
 have hB':=hB
 simp only [iP,aI,bU,decide_eq_true_eq,beq_iff_eq] at hB
 obtain ⟨⟨⟨⟨⟨hsel,hn⟩,hed⟩,ht⟩,hsc⟩,hseq⟩:=hB
 have hn' : n <= l.length:=by simpa using hn
 obtain ⟨vals, -,hst,hdone⟩:=aHO (P:=P) (ops:=l.toArray) ht (l.take n) 0 a (fun _=>undef) (fun j hj=>by
  have hj' : j < n:=by simp at hj;omega
  simp [hj']) (by simp;omega) (Fr.start fun j _ hj=>by omega) h
 refine wp_region_any hm ?_
 have inv0:HeadInv .any l.toArray n (Array.replicate l.toArray.size false) :=
  ⟨by simp,fun j oj _ hl=>(by rw [getD_replicate_false] at hl;cases hl),fun t _ ht=>getD_in (by simpa using ht) (getD_replicate_false _ _)⟩
 have hc:∀ m,m <= l.toArray.size -> cnt (Array.replicate l.toArray.size false) m=m:=by
  intro m
  induction m with
  | zero=>intro _;rfl
  | succ m ih =>
   intro hm
   have:(Array.replicate l.toArray.size false).getD m true=false:=getD_in (by simp at hm ⊢;omega) (getD_replicate_false _ _)
   simp only [cnt]
   rw [ih (by omega),this]
   simp
 have:=aA7 (P:=P) (Q:=Q) (tail:=l.drop n) hB' hps (fun j=>by simp [bM]) hT (fun j o ho hj=>hst j o ho (aO _) hj) hdone hQ n (Array.replicate l.toArray.size false) a w.drew inv0 (hc n hn) ⟨0,aO _,fun j p _=>⟨fun hl=>(by rw [getD_replicate_false] at hl;cases hl),fun h=>(by omega)⟩,hT 0 w w.drew hJ (Below.refl _ w).drew⟩
  (Fr.start fun j _ hl=>by rw [getD_replicate_false] at hl;cases hl)
 rw [show n+(l.toArray.size - n)=l.toArray.size by omega] at this
 exact this
end
def aHP (w:World) (b1 b2 bm:Nat) (h v t:Int) (a0 a1 a2 a3 a4 a5 a6 a7 a8 a9 a10 a11:Value) (i:Nat) (W:World):Prop :=
 Box W b1 #[.pointer (some ⟨bm,0,none⟩)]/\Box W b2 #[.int .i64 h,.int .i64 v,.int .i64 t]/\Box W bm #[if 0 < i then .int .i64 h else a0,if 1 < i then .int .i64 v else a1,a2,a3,a4,a5,a6,a7,a8,a9,a10,a11]/\Off (Foot.one bm) w W
set_option maxRecDepth 100000 in
theorem aHQ {w:World} {b1 bm:Nat} {h v t:Int} {a0 a1 a2 a3 a4 a5 a6 a7 a8 a9 a10 a11:Value} (h1:Box w b1 #[.pointer (some ⟨bm,0,none⟩)]) (hM:Box w bm #[a0,a1,a2,a3,a4,a5,a6,a7,a8,a9,a10,a11]) (hne:b1 ≠ bm) :
  CallsD Tryz.prog 104 #[.pointer (some ⟨b1,0,none⟩)] (.panicking [{ v:=.iface 166 (.agg #[.int .i64 h,.int .i64 v,.int .i64 t]),recovered:=false }]) w fun e u' w' =>
   e = .returned (.tuple #[])/\u' = .panicking [{ v:=.iface 166 (.agg #[.int .i64 h,.int .i64 v,.int .i64 t]),recovered:=true }]/\Box w' bm #[.int .i64 h,.int .i64 v,.int .i64 t,a3,a4,a5,a6,a7,a8,a9,a10,a11]/\Off (Foot.one bm) w w':=by
 have hta:∀ (a:Array Value) (w:World),(Instr.typeAssert (.iface 166 (.agg a)) 20 166 true).run Tryz.prog w = .ok (.tuple #[.agg a,.bool true]) w:=fun a w=>by kernel_rfl
 refine callsD_of_wpS Tryz.func104 rfl fun c₀ cs hu => ?_
 have H1:=h! h1
 have HM:=h! hM
 have N1:=h! hne
 clear h1 hM hne
 apply wpS_seq
 apply wpS_region
 simp [wpOpsS,go_sem,recoverD,hu,Tryz.ntmps104,Exit.thenS,Array.replicate,List.replicate]
 refine wpS_of_wp ?_
 go_upto_region 4 with (fail)
 clear hta hu
 have H10:=h! (H1.out.alloc (.cells #[.int .i64 h,.int .i64 v,.int .i64 t] 166))
 have HM0:=h! (HM.out.alloc (.cells #[.int .i64 h,.int .i64 v,.int .i64 t] 166))
 have H20:=h! (Box.new w #[.int .i64 h,.int .i64 v,.int .i64 t] 166)
 have HO0:Hid (Off (Foot.one bm) w (w.alloc (.cells #[.int .i64 h,.int .i64 v,.int .i64 t] 166))):=h! (Off.alloc _ _ _)
 have hml:=HM.out.lt
 obtain ⟨b2,hb2⟩ : ∃ b2,b2=w.heap.size:=⟨_,rfl⟩
 have N2:Hid (b2 ≠ bm):=h! (by omega)
 rw [<-hb2] at H20 ⊢
 generalize w.alloc (.cells #[.int .i64 h,.int .i64 v,.int .i64 t] 166)=w1 at *
 clear hb2 hml
 refine o7 17 [12,16] (fun _=>undef) (aHP w b1 b2 bm h v t a0 a1 a2 a3 a4 a5 a6 a7 a8 a9 a10 a11) (fun _ _=>False) (by kernel_rfl) (by kernel_rfl) (by kernel_rfl) (fun i W W' hJ hb => ?_) ?_ (fun _ _ _ _ hz=>hz.elim) ?_
 ·obtain ⟨k1,k2,k3,k4⟩:=hJ
  exact ⟨k1.later hb,k2.later hb,k3.later hb,k4.trans (Off.of_below hb _)⟩
 ·exact ⟨H10.out,H20.out,HM0.out,HO0.out⟩
 simp only [aQ,aV,aR,aY]
 iterate 12 ((refine jK.val (u := ?_) (by decide) rfl (fun i wg hJ => ?_) ?_);(rotate_left);(focus (obtain ⟨⟨l1,c1,f1⟩,⟨l2,c2,f2⟩, -, -⟩:=hJ;first | (go_simp;done) | (go_simp;with_reducible rfl)));(simp only [Act.put,aA,aE,aF]))
 refine jK.turn 0 rfl (by decide) rfl rfl (fun wg hJ => ?_) ?_
 ·obtain ⟨h1,h2,h3,h4⟩:=hJ
  have hX:=h! (And.intro h1 (And.intro h2 (And.intro h3 h4)))
  obtain ⟨lm,cm,fm⟩:=h3
  refine ⟨wg.setCell ⟨bm,0,none⟩ (.int .i64 h), ?_, ?_⟩
  ·clear h1 h2 h4
   first | (go_simp;done) | (go_simp;with_reducible rfl)
  obtain ⟨h1,h2,h3,h4⟩:=hX.out
  refine ⟨h1.other (p:=⟨bm,0,none⟩) _ N1.out,h2.other (p:=⟨bm,0,none⟩) _ N2.out,by simpa using h3.set 0 (.int .i64 h),h4.trans (Off.set wg ⟨bm,0,none⟩ _)⟩
 simp only [Act.put,aA,aE,aF]
 iterate 3 ((refine jK.val (u := ?_) (by decide) rfl (fun i wg hJ => ?_) ?_);(rotate_left);(focus (obtain ⟨⟨l1,c1,f1⟩,⟨l2,c2,f2⟩, -, -⟩:=hJ;first | (go_simp;done) | (go_simp;with_reducible rfl)));(simp only [Act.put,aA,aE,aF]))
 refine jK.turn 1 rfl (by decide) rfl rfl (fun wg hJ => ?_) ?_
 ·obtain ⟨h1,h2,h3,h4⟩:=hJ
  have hX:=h! (And.intro h1 (And.intro h2 (And.intro h3 h4)))
  obtain ⟨lm,cm,fm⟩:=h3
  refine ⟨wg.setCell ⟨bm,1,none⟩ (.int .i64 v), ?_, ?_⟩
  ·clear h1 h2 h4
   first | (go_simp;done) | (go_simp;with_reducible rfl)
  obtain ⟨h1,h2,h3,h4⟩:=hX.out
  refine ⟨h1.other (p:=⟨bm,1,none⟩) _ N1.out,h2.other (p:=⟨bm,1,none⟩) _ N2.out,by simpa using h3.set 1 (.int .i64 v),h4.trans (Off.set wg ⟨bm,1,none⟩ _)⟩
 simp only [Act.put,aA,aE,aF]
 rintro w9 ⟨k1,k2,k3,k4⟩
 have K3:=h! k3
 have K4:=h! k4
 simp only [bB,cD] at k3
 obtain ⟨lm,cm,fm⟩:=k3
 clear k1 k2 k4
 go_wp2
 have KB:Hid (Box (w9.setCell ⟨bm,2,none⟩ (.int .i64 t)) bm #[.int .i64 h,.int .i64 v,.int .i64 t,a3,a4,a5,a6,a7,a8,a9,a10,a11]):=h! (by simpa using K3.out.set 2 (.int .i64 t))
 have KO:Hid (Off (Foot.one bm) w (w9.setCell ⟨bm,2,none⟩ (.int .i64 t))):=h! (K4.out.trans (Off.set w9 ⟨bm,2,none⟩ _))
 clear lm cm fm
 generalize w9.setCell ⟨bm,2,none⟩ (.int .i64 t)=w10 at *
 simp [bodyPostS,results,Tryz.results104]
 trace_state
 exact ⟨KB.out,KO.out⟩
theorem MachP.over {base bs fuel:Nat} {W W' : World} {bm:Nat} {s:RunS} {o:OverD} {ov av vv cv:Value} {mv:Nat} {m:List (Int × Value)} {F:Nat -> Foot} (h:MachP base bs fuel W bm s ⟨0,0,0⟩ ov av vv cv mv m F) (ho:Off (Foot.one bm) W W')
  (hb:Box W' bm #[.int .i64 o.how,.int .i64 o.value,.int .i64 o.trap,ov,av,.int .i64 s.steps,.int .i64 s.checks,vv,.pointer (some ⟨bs,0,none⟩),.int .i64 fuel,.map (some mv),cv]):MachP base bs fuel W' bm s o ov av vv cv mv m F:=by
 have hne:∀ j,j ≠ 0 -> (F j).off (Foot.one bm):=fun j hj k hk e=>h.apart j 0 hj k hk ((h.b0 k).2 e)
 exact ⟨hb,h.b0,h.out.off ho (hne 1 (by omega)),h.arr.off OLis.nice ho (hne 2 (by omega)),h.vis.off ho (hne 3 (by omega)),h.mp.keep (ho.block _ h.mp.lt (hne 4 (by omega) _ ((h.m4 _).2 rfl))),h.m4,h.val,h.cel.off ho (hne 5 (by omega)),h.v64,h.apart,h.six,h.base⟩
def stepsAt (W:World) (bm:Nat):Nat:=match W.cell? ⟨bm,5,none⟩ with | some (.int _ n)=>n.toNat | _=>0
theorem Mach.stepsAt {base bs fuel:Nat} {W:World} {bm:Nat} {D:Foot} {s:RunS} (h:Mach base bs fuel W bm D s):stepsAt W bm=s.steps:=by
 obtain ⟨_,_,_,_,_,_,_,hP,_⟩:=h
 unfold Go.Proofs.YtgmhnepmkaonaaaGreat.stepsAt
 rw [hP.box.at 5 rfl]
 simp
def aHR (f:FuncD) (base bs fuel:Nat) (w:World) (bm:Nat) (D:Foot) (s:RunS) (e:Ending) (w' : World):Prop :=
 ∃ (o:OverD) (s' : RunS) (ov av vv cv:Value) (mv:Nat) (m:List (Int × Value)) (F:Nat -> Foot),e = .returned (.tuple #[])/\Runs f fuel (-1) 0 s o s' /\ MachP base bs fuel w' bm s' o ov av vv cv mv m F/\Off D w w' /\ ∀ i k,F i k -> D k \/ w.heap.size <= k
set_option maxRecDepth 100000 in
theorem aHS {base bs fuel bm:Nat} {w:World} {D:Foot} {s:RunS} {f:FuncD} (hM:Mach base bs fuel w bm D s) (hB:base <= w.heap.size) (hE:Env f base w bs) (hc:d7 f=0) (hF:fM f 0 0) (hfu:fuel <= 200000) (hG:GoodS f fuel s) (hV:∀ n ∈ s.visits,n <= s.steps+1) :
  Calls Tryz.prog 63 #[.pointer (some ⟨bm,0,none⟩)] w (aHR f base bs fuel w bm D s):=by
 have hmf:∀ (fn:Fn) (first cap:Array Value) (w:World),(Instr.makeFunc fn first cap).run Tryz.prog w = .ok (.func fn first cap) w:=fun _ _ _ _=>rfl
 have HM:=h! hM
 have HB:=h! hB
 have HE:=h! hE
 have HC:=h! hc
 have HF:=h! hF
 have HG:=h! hG
 have HV:=h! hV
 have hlt:=hM.lt
 have HLT:=h! hlt
 clear hM hB hE hc hF hG hV hlt
 go_enter_defers Tryz.func63,Tryz.ntmps63
 go_wp2_with fail
 go_loopw [2,3] (fun fr at_ wr => ∃ (src:Int) (a:Nat) (s1:RunS),fr = .int .i64 src/\at_ = .int .i64 a/\In f src a/\(∀ o s',Runs f fuel src a s1 o s' -> Runs f fuel (-1) 0 s o s')/\GoodS f fuel s1/\(∀ n ∈ s1.visits,n <= s1.steps+1) /\ ∃ D1,Mach base bs fuel wr bm D1 s1/\Off D w wr/\(∀ k,D1 k -> D k \/ w.heap.size <= k) /\ ¬ D1 w.heap.size/\Box wr w.heap.size #[.pointer (some ⟨bm,0,none⟩)]) (fun _ _ W=>fuel - stepsAt W bm)
 case atStart=>exact ⟨-1,0,s,rfl,rfl,.inl ⟨rfl,rfl⟩,fun _ _ h=>h,HG.out,HV.out,D,HM.out.alloc _,Off.alloc _ _ _,fun k h=>.inl h,fun h=>by have:=HLT.out _ h;omega,Box.new _ _ _⟩
 case round =>
  obtain ⟨src,a,s1,rfl,rfl,hin,hru,hg1,hv1,D1,hm1,ho1,hd1,hb1,hB1⟩:=hrel
  have hal:=hin.lt HC.out
  obtain ⟨x,hx⟩ : ∃ x,f.blocks[a]? = some x:=⟨_,aC hal⟩
  have HIN:=h! hin
  have HRU:=h! hru
  have HG1:=h! hg1
  have HV1:=h! hv1
  have HM1:=h! hm1
  have HO1:=h! ho1
  have HD1:=h! hd1
  have HN1:=h! hb1
  have B1:=h! hB1
  have HX:=h! hx
  have HSR:=h! (hin.phis HC.out HF.out hx)
  have HEW:Hid (Env f base wr bs):=h! (HE.out.later (ho1.below HB.out (fun k _ hk=>HM.out.base k hk)))
  have hBw:base <= wr.heap.size:=aP HB.out ho1.size
  have HVB:Hid (∀ n ∈ s1.visits,n <= 1000000):=h! (fun n hn=>by have:=hv1 n hn;have:=hg1.stp;omega)
  clear hin hru hg1 hv1 hm1 ho1 hd1 hb1 hB1 hx hal
  obtain ⟨l1,c1,f1⟩:=B1.out
  go_wp2_with fail
  clear l1 c1 f1
  refine (aG8 HM1.out hBw HEW.out HC.out hfu HG1.out HVB.out HX.out HSR.out).mono ?_
  rintro e w2 h9
  cases hbl:fY f fuel src a s1 with
  | over o s2 =>
   rw [hbl] at h9
   obtain ⟨rfl,D2,hm2,ho2,hd2⟩:=h9
   have HRUN:Hid (Runs f fuel (-1) 0 s o s2):=h! (HRU.out o s2 (Runs.over hbl))
   have B2:=h! (B1.out.off ho2 HN1.out)
   have HO2:Hid (Off D w w2):=h! (Off.grow HO1.out ho2 HD1.out)
   have HD2:Hid (∀ k,D2 k -> D k \/ w.heap.size <= k):=h! (fun k hk=>by
    rcases hd2 k hk with h | h
    ·exact HD1.out k h
    exact .inr (aP HO1.out.size h))
   have HN2:Hid (¬ D2 w.heap.size):=h! (fun h=>(hd2 _ h).elim HN1.out (fun h=>by have:=B1.out.lt;omega))
   obtain ⟨ov,av,vv,cv,mv,m,F,hP,hDF⟩:=hm2
   have HP:=h! hP
   have HDF:=h! hDF
   clear ho2 hd2 hP hDF hbl
   unfold j4
   go_wp2
   refine leaves_cons (f:=104) (args:=#[.pointer (some ⟨w.heap.size,0,none⟩)]) (by simp) (by simp [go_sem]) ?_
   refine (aHQ B2.out HP.out.box (fun e=>HN2.out ((HDF.out _).2 ⟨0,(HP.out.b0 _).2 e⟩))).mono ?_
   rintro e u' w3 ⟨rfl,rfl,hbx,hof⟩
   have HBX:=h! hbx
   have HOF:=h! hof
   clear hbx hof
   simp [Leaves,settle,results,Tryz.results63,go_sem]
   refine ⟨o,s2,ov,av,vv,cv,mv,m,F,rfl,HRUN.out,HP.out.over HOF.out HBX.out,Off.grow HO2.out HOF.out (fun k hk=>by cases hk;exact HD2.out _ ((HDF.out _).2 ⟨0,(HP.out.b0 _).2 rfl⟩)),fun i k hk=>HD2.out k ((HDF.out k).2 ⟨i,hk⟩)⟩
  | go to s2 =>
   rw [hbl] at h9
   obtain ⟨rfl,D2,hm2,ho2,hd2⟩:=h9
   have hgo:=_root_.Go.Proofs.YtgmhnepmkaonaaaGreat.u8 HC.out HG1.out HX.out HSR.out hbl
   obtain ⟨t,rfl,ht⟩:=hgo.to
   have HGO:=h! hgo
   have HT:=h! ht
   have HBL:=h! hbl
   have B2:=h! (B1.out.off ho2 HN1.out)
   have HO2:Hid (Off D w w2):=h! (Off.grow HO1.out ho2 HD1.out)
   have HD2:Hid (∀ k,D2 k -> D k \/ w.heap.size <= k):=h! (fun k hk=>by
    rcases hd2 k hk with h | h
    ·exact HD1.out k h
    exact .inr (aP HO1.out.size h))
   have HN2:Hid (¬ D2 w.heap.size):=h! (fun h=>(hd2 _ h).elim HN1.out (fun h=>by have:=B1.out.lt;omega))
   have HM2:=h! hm2
   have HVN:Hid (∀ n ∈ s2.visits,n <= s2.steps+1):=h! (fun n hn=>by
    rw [hgo.visits] at hn
    obtain ⟨i,hi⟩:=cU hn
    rw [dQ] at hi
    have hs:=hgo.steps
    cases hq:s1.visits[i]? with
    | none=>rw [hq] at hi;simp at hi
    | some q =>
     rw [hq] at hi
     have:=HV1.out q (aG hq)
     simp at hi
     split at hi <;> omega)
   clear ho2 hd2 hm2 hgo ht hbl
   have hal:a < f.blocks.length:=HIN.out.lt HC.out
   go_wp2
   go_roundw
   case rel=>exact ⟨a,t,s2,rfl,rfl,.inr ⟨a,rfl,hal,HT.out⟩,fun o s' h=>HRU.out o s' (Runs.go HBL.out (by simpa using h)),HGO.out.good,HVN.out,D2,HM2.out,HO2.out,HD2.out,HN2.out,B2.out⟩
   rw [HM2.out.stepsAt,HM1.out.stepsAt]
   have:=HGO.out.steps
   have:=HGO.out.good.stp
   omega
end Go.Proofs.YtgmhnepmkaonaaaGreat
