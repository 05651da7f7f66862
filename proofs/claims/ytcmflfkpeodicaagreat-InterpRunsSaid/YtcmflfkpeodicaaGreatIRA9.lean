/- Part 9. -/
import Derived.Test.YtcmflfkpeodicaaGreatIRA8
namespace Go.Proofs.YtcmflfkpeodicaaGreat
set_option maxHeartbeats 6400000
set_option linter.all false
open Go Go.RowKit
section
variable {P:Program} {ops:Array Oper}
def Stat (P:Program) (ops:Array Oper) (Inv:(Nat -> Prop) -> World -> Prop) (L:Act -> World -> Prop):List Oper -> Nat -> Act -> Prop
 | [],k,a => ∀ S w',(∀ j,j < k -> S j) -> Inv S w' -> L a w'
 | o :: rest,k,a=>Region.wanted o (yielded ops a.tmps)=true /\ ∃ v,
   (∀ S w',(∀ j,gZ ops k j=true -> S j) -> ¬ S k -> Inv S w' -> ∃ w'',((execOp a.eval o).run P w' = .ok (.value v) w'' \/ ((execOp a.eval o).run P w' = .ok .skip w'' /\ v=undef))/\Inv (fun j=>j=k \/ S j) w'') /\
    Stat P ops Inv L rest (k+1) (a.put o.dst v)
theorem Stat.val {Inv:(Nat -> Prop) -> World -> Prop} {L:Act -> World -> Prop} {o:Oper} {rest:List Oper} {k:Nat} {a:Act} {v:Value} (hg:Region.wanted o (yielded ops a.tmps)=true)
  (hy:∀ S w',(∀ j,gZ ops k j=true -> S j) -> ¬ S k -> Inv S w' -> (execOp a.eval o).run P w' = .ok (.value v) w' /\ Inv (fun j=>j=k \/ S j) w') (h:Stat P ops Inv L rest (k+1) (a.put o.dst v)):Stat P ops Inv L (o :: rest) k a :=
 ⟨hg,v,fun S w' h1 h2 h3=>⟨w',.inl (hy S w' h1 h2 h3).1,(hy S w' h1 h2 h3).2⟩,h⟩
theorem Stat.op {Inv:(Nat -> Prop) -> World -> Prop} {L:Act -> World -> Prop} {o:Oper} {rest:List Oper} {k:Nat} {a:Act} {v:Value} (hg:Region.wanted o (yielded ops a.tmps)=true)
  (hy:∀ S w',(∀ j,gZ ops k j=true -> S j) -> ¬ S k -> Inv S w' -> ∃ w'',(execOp a.eval o).run P w' = .ok (.value v) w'' /\ Inv (fun j=>j=k \/ S j) w'') (h:Stat P ops Inv L rest (k+1) (a.put o.dst v)):Stat P ops Inv L (o :: rest) k a :=
 ⟨hg,v,fun S w' h1 h2 h3=>let ⟨w'',q1,q2⟩:=hy S w' h1 h2 h3; ⟨w'',.inl q1,q2⟩,h⟩
theorem Stat.still {Inv:(Nat -> Prop) -> World -> Prop} {L:Act -> World -> Prop} {o:Oper} {rest:List Oper} {k:Nat} {a:Act} (hg:Region.wanted o (yielded ops a.tmps)=true)
  (hy:∀ S w',(∀ j,gZ ops k j=true -> S j) -> ¬ S k -> Inv S w' -> ∃ w'',(execOp a.eval o).run P w' = .ok .skip w'' /\ Inv (fun j=>j=k \/ S j) w'') (h:Stat P ops Inv L rest (k+1) (a.put o.dst undef)):Stat P ops Inv L (o :: rest) k a :=
 ⟨hg,undef,fun S w' h1 h2 h3=>let ⟨w'',q1,q2⟩:=hy S w' h1 h2 h3; ⟨w'',.inr ⟨q1,rfl⟩,q2⟩,h⟩
structure STold (P:Program) (ops:Array Oper) (n:Nat) (Inv:(Nat -> Prop) -> World -> Prop) (L:Act -> World -> Prop) (a0:Act) (vals:Nat -> Value):Prop where
 step:∀ k o,ops[k]? = some o -> k < n -> ∃ b,Fr ops n a0 vals (· < k) b/\Region.wanted o (yielded ops b.tmps)=true /\
  ∀ S w',(∀ j,gZ ops k j=true -> S j) -> ¬ S k -> Inv S w' -> ∃ w'',((execOp b.eval o).run P w' = .ok (.value (vals k)) w'' \/ ((execOp b.eval o).run P w' = .ok .skip w'' /\ vals k=undef))/\Inv (fun j=>j=k \/ S j) w''
 done:∃ b,Fr ops n a0 vals (· < n) b /\ ∀ S w',(∀ j,j < n -> S j) -> Inv S w' -> L b w'
theorem qE {n:Nat} {Inv:(Nat -> Prop) -> World -> Prop} {L:Act -> World -> Prop} {a0:Act} (ht:lE ops n=true) :
  ∀ (l:List Oper) (k:Nat) (a:Act) (v0:Nat -> Value),(∀ j,j < l.length -> ops[k+j]? = l[j]?) -> k+l.length=n -> Fr ops n a0 v0 (· < k) a -> Stat P ops Inv L l k a ->
   ∃ vals:Nat -> Value,(∀ j,j < k -> vals j=v0 j)/\(∀ j o,ops[j]? = some o -> k <= j -> j < n -> ∃ b,Fr ops n a0 vals (· < j) b/\Region.wanted o (yielded ops b.tmps)=true /\
    ∀ S w',(∀ i,gZ ops j i=true -> S i) -> ¬ S j -> Inv S w' -> ∃ w'',((execOp b.eval o).run P w' = .ok (.value (vals j)) w'' \/ ((execOp b.eval o).run P w' = .ok .skip w'' /\ vals j=undef))/\Inv (fun i=>i=j \/ S i) w'') /\
    ∃ b,Fr ops n a0 vals (· < n) b /\ ∀ S w',(∀ j,j < n -> S j) -> Inv S w' -> L b w'
 | [],k,a,v0,_,hk,hf,h=>by
  have hk' : k=n:=by simpa using hk
  subst hk'
  exact ⟨v0,fun _ _=>rfl,fun j o _ h1 h2=>by omega,a,hf,h⟩
 | o :: rest,k,a,v0,hl,hk,hf,h=>by
  simp only [bB] at hk
  have ho:ops[k]? = some o:=by simpa using hl 0 (by simp)
  have hl' : ∀ j,j < rest.length -> ops[k+1+j]? = rest[j]?:=fun j hj=>by
   have:=hl (j+1) (by simp;omega)
   simpa [Nat.add_assoc,Nat.add_comm 1 j] using this
  obtain ⟨hw,v,hs,hg⟩:=h
  let v1:Nat -> Value:=fun j=>if j=k then v else v0 j
  have e1:∀ j,j < k -> v1 j=v0 j:=fun j hj=>by simp only [v1];rw [if_neg (by omega)]
  have ek:v1 k=v:=by simp [v1]
  have hf1:Fr ops n a0 v1 (· < k) a:=hf.congr (fun j _ hj=>(e1 j hj).symm) (fun _ _=>Iff.rfl)
  have hf2:=hf1.put ht ho (by omega)
  rw [ek] at hf2
  have hf3:Fr ops n a0 v1 (· < k+1) (a.put o.dst v):=hf2.congr (fun _ _ _=>rfl) (fun j _=>by omega)
  obtain ⟨vals,hv,hst,hd⟩:=qE ht rest (k+1) _ v1 hl' (by omega) hf3 hg
  refine ⟨vals,fun j hj=>(hv j (by omega)).trans (e1 j hj),fun j oj hj hkj hjn => ?_,hd⟩
  by_cases hjk:j=k
  ·subst hjk
   rw [ho] at hj
   cases hj
   refine ⟨a,hf1.congr (fun i _ hi=>(hv i (by omega)).symm) (fun _ _=>Iff.rfl),hw, ?_⟩
   rw [hv j (by omega),ek]
   exact hs
  exact hst j oj hj (by omega) hjn
theorem aCR {n:Nat} {Inv:(Nat -> Prop) -> World -> Prop} {Q:Exit -> Act -> World -> Prop} {tail:List Oper} {a0:Act} {vals:Nat -> Value} (hB:jJ ops n=true)
  (htail:∀ j,tail[j]? = ops[n+j]?) (htold:STold P ops n Inv (wpList P ops Q tail) a0 vals) :
  ∀ (m:Nat) (listed:Array Bool) (a:Act) (w:World),HeadInv .any ops n listed -> cnt listed n=m -> Inv (fun j=>listed.getD j false=true) w ->
   Fr ops n a0 vals (fun j=>listed.getD j false=true) a -> wpAny P .any ops Q (m+(ops.size - n)) listed a w:=by
 simp only [jJ,aN,bQ,decide_eq_true_eq,beq_iff_eq] at hB
 obtain ⟨⟨⟨⟨⟨hsel,hn⟩,hed⟩,ht⟩,hsc⟩,hseq⟩:=hB
 intro m
 induction m with
 | zero =>
  intro listed a w inv hcnt hI hfr
  have hlen:tail.length=ops.size - n:=by
   apply dV
   ·by_cases hle:tail.length <= ops.size - n
    ·exact hle
    have h1:=htail (ops.size - n)
    rw [bA (by omega)] at h1
    have:=dD.1 h1
    omega
   by_cases hle:ops.size - n <= tail.length
   ·exact hle
   have h1:=htail tail.length
   rw [aW (aF _)] at h1
   have:=cA.1 h1.symm
   omega
  have hl:∀ j,j < n -> listed.getD j false=true:=fun j hj=>fI (jI n hcnt j hj) (by rw [inv.size];omega)
  have hlist:listed=fP ops.size n:=by
   apply dF
   intro j
   by_cases hj:j < ops.size
   ·have e2:(fP ops.size n)[j]? = some (decide (j < n)):=by simp [fP,hj]
    rw [e2]
    by_cases hjn:j < n
    ·have:=hl j hjn
     rw [bI] at this
     cases hx:listed[j]? with
     | none=>rw [hx] at this;cases this
     | some b=>rw [hx] at this;simp at this;rw [this,decide_eq_true hjn]
    have:=inv.tail j (by omega) hj
    rw [bI] at this
    cases hx:listed[j]? with
    | none=>rw [hx] at this;cases this
    | some b=>rw [hx] at this;simp at this;rw [this,decide_eq_false hjn]
   rw [bA (by rw [inv.size];omega),bA (by simp [fP];omega)]
  obtain ⟨b,hb1,hb2⟩:=htold.done
  have hab:a=b:=hfr.eq hb1 fun j hj=>⟨fun _=>hj,fun _=>hl j hj⟩
  subst hab
  have:=wpAny_of_seq (md:=.any) (Q':=Q) tail n listed a w htail (by rw [hlist,hlen];exact hseq) (hb2 _ w (fun j hj=>hl j hj) hI)
  rw [hlen] at this
  rw [bH]
  exact this
 | succ m ih =>
  intro listed a w inv hcnt hI hfr
  rw [show m+1+(ops.size - n)=(m+(ops.size - n))+1 by omega]
  obtain ⟨k0,hk0,hu0,hless⟩:=jR (listed:=listed) n (by omega)
  have hready0:k0 ∈ Region.ready .any ops listed:=by
   refine mem_ready.2 ⟨hu0,ops[k0],bC (by omega),fun e he hbi => ?_⟩
   have:=iD hed hk0 (bC (by omega)) he hbi
   exact fI (hless _ this) (by rw [inv.size];omega)
  refine ⟨fun h0=>(by rw [h0] at hready0;cases hready0),fun i hi => ?_⟩
  have hin:i < n:=by
   rcases dC i n with h | h
   ·exact h
   rcases hsc with h1 | h1
   ·obtain ⟨_,o,ho,_⟩:=mem_ready.1 hi
    have:=(aS.1 ho).1
    omega
   by_cases hns:n < ops.size
   ·exact absurd hi (tail_waits h1.1 h1.2 hns inv _ k0 rfl hk0 hu0 i h)
   obtain ⟨_,o,ho,_⟩:=mem_ready.1 hi
   have:=(aS.1 ho).1
   omega
  obtain ⟨hun,o,ho,hedge⟩:=mem_ready.1 hi
  have hinv':=inv.set hi hin
  have hcnt' : cnt (listed.setIfInBounds i true) n=m:=by
   have:=(mH (by rw [inv.size];omega) hun n).2 hin
   omega
  have hset:∀ j,(listed.setIfInBounds i true).getD j false=true ↔ (j=i \/ listed.getD j false=true):=fun j=>by
   by_cases e:i=j
   ·subst e
    have:i < listed.size:=by rw [inv.size];omega
    simp [this]
   rw [getD_set_ne false e]
   exact ⟨fun h=>.inr h,fun h=>h.resolve_left (fun e'=>e e'.symm)⟩
  have heq:(fun j=>(listed.setIfInBounds i true).getD j false=true)=fun j=>j=i \/ listed.getD j false=true:=funext fun j=>propext (hset j)
  obtain ⟨b,hfb,hwant,hstep⟩:=htold.step i o ho hin
  have hpre:∀ j,gZ ops i j=true -> listed.getD j false=true:=fun j hj=>by
   obtain ⟨oj,hoj,e,hem,hbi,hon⟩:=fT hj
   rw [ho] at hoj
   cases hoj
   rw [<-hon]
   exact hedge e hem hbi
  have hlook:∀ d,d ∈ o.looksAt ops -> a.tmps[d]? = b.tmps[d]?:=fun d hd=>Fr.same ht hfr hfb ho hin (fun j hj he hji=>⟨hpre j he,hji,rfl⟩) d hd
  obtain ⟨ex,ew⟩:=iN (ops:=ops) (o:=o) (fun cs b=>Region.noSelect_spec hsel i o cs b ho) hlook
  have hnot:¬ listed.getD i false=true:=by
   intro h
   have:i < listed.size:=by rw [inv.size];have:=(aS.1 ho).1;omega
   simp [this] at h hun
   rw [h] at hun;cases hun
  obtain ⟨w',hr,hI'⟩:=hstep (fun j=>listed.getD j false=true) w hpre hnot hI
  have next:wpAny P .any ops Q (m+(ops.size - n)) (listed.setIfInBounds i true) (a.put o.dst (vals i)) w' :=
   ih _ _ w' hinv' hcnt' (by rw [heq];exact hI') ((hfr.put ht ho hin).congr (fun _ _ _=>rfl) (fun j _=>(hset j).symm))
  unfold wpOp
  simp only [ho]
  rw [ew,if_pos hwant]
  left
  unfold Oper.wp
  rw [ex]
  rcases hr with hr | ⟨hr,hv⟩
  ·rw [hr];exact next
  rw [hr,Oper.upon_skip, <-hv];exact next
theorem pD {id:Nat} {Q:Exit -> Act -> World -> Prop} {a:Act} {w:World} {l:List Oper} (n:Nat) (Inv:(Nat -> Prop) -> World -> Prop) (hm:P.follows .mixedOrders=true) (hB:jJ l.toArray n=true)
  (h0:Inv (fun _=>False) w.drew) (h:Stat P l.toArray Inv (wpList P l.toArray Q (l.drop n)) (l.take n) 0 a):(Code.region id l.toArray true).wp P Q a w:=by
 have hB':=hB
 simp only [jJ,aN,bQ,decide_eq_true_eq,beq_iff_eq] at hB
 obtain ⟨⟨⟨⟨⟨hsel,hn⟩,hed⟩,ht⟩,hsc⟩,hseq⟩:=hB
 have hn' : n <= l.length:=by simpa using hn
 obtain ⟨vals,_,h1,h2⟩:=qE (ops:=l.toArray) ht (l.take n) 0 a (fun _=>undef) (fun j hj=>by
  have hj' : j < n:=by simp at hj;omega
  simp [hj']) (by simp;omega) (Fr.start fun j _ hj=>by omega) h
 have htold:STold P l.toArray n Inv (wpList P l.toArray Q (l.drop n)) a vals:=⟨fun k o hk hkn=>h1 k o hk (by omega) hkn,h2⟩
 refine wp_region_any hm ?_
 have inv0:HeadInv .any l.toArray n (Array.replicate l.toArray.size false) :=
  ⟨by simp,fun j oj _ hl=>(by rw [getD_replicate_false] at hl;cases hl),fun t _ ht=>getD_in (by simpa using ht) (getD_replicate_false _ _)⟩
 have hc:∀ m,m <= l.toArray.size -> cnt (Array.replicate l.toArray.size false) m=m:=by
  intro m
  induction m with
  | zero=>intro _;rfl
  | succ m ih =>
   intro hm
   have:(Array.replicate l.toArray.size false).getD m true=false:=getD_in (by simp at hm ⊢;omega) (getD_replicate_false _ _)
   simp only [cnt]
   rw [ih (by omega),this]
   simp
 have heq:(fun j=>(Array.replicate l.toArray.size false).getD j false=true)=fun _=>False:=funext fun j=>propext ⟨fun hl=>(by rw [getD_replicate_false] at hl;cases hl),fun h=>h.elim⟩
 have:=aCR (P:=P) (Q:=Q) (tail:=l.drop n) hB' (fun j=>by simp [cH]) htold n (Array.replicate l.toArray.size false) a w.drew inv0 (hc n hn) (by rw [heq];exact h0) (Fr.start fun j _ hl=>by rw [getD_replicate_false] at hl;cases hl)
 rw [show n+(l.toArray.size - n)=l.toArray.size by omega] at this
 exact this
end
open Go.RowKit
structure MostI (w0:World) (ar ce:Int) (S:Nat -> Prop) (w:World):Prop where
 below:Below w0.heap.size w0 w
 none:¬ S 0 -> w.heap.size=w0.heap.size /\ ¬ S 1 /\ ¬ S 2 /\ ¬ S 9 /\ ¬ S 16
 map:S 0 -> ∃ m,IMap w w0.heap.size m/\(S 1 -> mget m 0=some (.int .i64 0))/\(S 2 -> mget m 2=some (.int .i64 1))/\(S 9 -> mget m 3=some (.int .i64 (ar - 1)))/\(S 16 -> mget m 4=some (.int .i64 (ce - 1))) /\
  ∀ k,k ≠ 0 -> k ≠ 2 -> k ≠ 3 -> k ≠ 4 -> mget m k=Option.none
theorem MostI.start (w0:World) (ar ce:Int):MostI w0 ar ce (fun _=>False) w0.drew:=⟨(Below.refl _ _).drew,fun _=>⟨rfl,id,id,id,id⟩,fun h=>h.elim⟩
theorem MostI.plain {w0 w:World} {ar ce:Int} {S:Nat -> Prop} (h:MostI w0 ar ce S w) (k:Nat) (hk:0 ≠ k/\1 ≠ k/\2 ≠ k/\9 ≠ k/\16 ≠ k):MostI w0 ar ce (fun j=>j=k \/ S j) w:=by
 obtain ⟨k0,k1,k2,k9,k16⟩:=hk
 refine ⟨h.below,fun hn => ?_,fun hy => ?_⟩
 ·obtain ⟨q,q1,q2,q9,q16⟩:=h.none fun h0=>hn (.inr h0)
  exact ⟨q,fun x=>x.elim k1 q1,fun x=>x.elim k2 q2,fun x=>x.elim k9 q9,fun x=>x.elim k16 q16⟩
 obtain ⟨m,q,q1,q2,q9,q16,r⟩:=h.map (hy.resolve_left k0)
 exact ⟨m,q,fun x=>q1 (x.resolve_left k1),fun x=>q2 (x.resolve_left k2),fun x=>q9 (x.resolve_left k9),fun x=>q16 (x.resolve_left k16),r⟩
theorem MostI.make {w0 w:World} {ar ce:Int} {S:Nat -> Prop} (h:MostI w0 ar ce S w) (h0:¬ S 0):MostI w0 ar ce (fun j=>j=0 \/ S j) (w.alloc (.map #[] 0)):=by
 obtain ⟨q,q1,q2,q9,q16⟩:=h.none h0
 refine ⟨h.below.alloc (by omega) _,fun hn=>absurd (.inl rfl) hn,fun _=>⟨[], ?_,fun x=>absurd (x.resolve_left (by decide)) q1,fun x=>absurd (x.resolve_left (by decide)) q2,fun x=>absurd (x.resolve_left (by decide)) q9,fun x=>absurd (x.resolve_left (by decide)) q16,fun k _ _ _ _=>rfl⟩⟩
 rw [<-q];exact IMap.new w
theorem MostI.ins {w0 w:World} {ar ce:Int} {S:Nat -> Prop} {a:Act} {o:Oper} {m x u:Operand} {i:Nat} {key v:Int} (h:MostI w0 ar ce S w) (h0:S 0) (hop:o.op=Op.insert 74 m x u) (hm:a.eval m = .map (some w0.heap.size)) (hx:a.eval x = .int .i64 key) (hu:a.eval u = .int .i64 v)
  (hk:(i=1/\key=0/\v=0) \/ (i=2/\key=2/\v=1) \/ (i=9/\key=3/\v=ar - 1) \/ (i=16/\key=4/\v=ce - 1)) :
  ∃ w'',(execOp a.eval o).run Tryz.prog w = .ok .skip w'' /\ MostI w0 ar ce (fun j=>j=i \/ S j) w'':=by
 obtain ⟨mm,hM,q1,q2,q9,q16,r⟩:=h.map h0
 obtain ⟨w',hrun,r1,r2,r3⟩:=hM.update Tryz.underlying74 Tryz.underlying3 key (.int .i64 v)
 refine ⟨w',by simp [execOp,hop,hm,hx,hu,hrun,Result.andThen],h.below.trans (r3.below h.below.size (fun b hb=>by simp at hb;omega)),fun hn=>absurd (.inr h0) hn,fun _=>⟨_,r1, ?_⟩⟩
 simp only [oZ]
 rcases hk with ⟨rfl,rfl,rfl⟩ | ⟨rfl,rfl,rfl⟩ | ⟨rfl,rfl,rfl⟩ | ⟨rfl,rfl,rfl⟩
 ·exact ⟨fun _=>rfl,fun x=>q2 (x.resolve_left (by decide)),fun x=>q9 (x.resolve_left (by decide)),fun x=>q16 (x.resolve_left (by decide)),fun k k0 k2 k3 k4=>by rw [if_neg k0];exact r k k0 k2 k3 k4⟩
 ·exact ⟨fun x=>q1 (x.resolve_left (by decide)),fun _=>rfl,fun x=>q9 (x.resolve_left (by decide)),fun x=>q16 (x.resolve_left (by decide)),fun k k0 k2 k3 k4=>by rw [if_neg k2];exact r k k0 k2 k3 k4⟩
 ·exact ⟨fun x=>q1 (x.resolve_left (by decide)),fun x=>q2 (x.resolve_left (by decide)),fun _=>rfl,fun x=>q16 (x.resolve_left (by decide)),fun k k0 k2 k3 k4=>by rw [if_neg k3];exact r k k0 k2 k3 k4⟩
 ·exact ⟨fun x=>q1 (x.resolve_left (by decide)),fun x=>q2 (x.resolve_left (by decide)),fun x=>q9 (x.resolve_left (by decide)),fun _=>rfl,fun k k0 k2 k3 k4=>by rw [if_neg k4];exact r k k0 k2 k3 k4⟩
theorem MostI.end {w0 w:World} {ar ce:Int} {S:Nat -> Prop} (h:MostI w0 ar ce S w) (hS:∀ j,j < 17 -> S j):∃ m,IMap w w0.heap.size m /\ ∀ k,mget m k=(topN ar ce k).map (.int .i64):=by
 obtain ⟨m,q,q1,q2,q9,q16,r⟩:=h.map (hS 0 (by decide))
 refine ⟨m,q,fun k => ?_⟩
 unfold topN
 by_cases h0:k=0
 ·rw [h0];exact q1 (hS 1 (by decide))
 rw [if_neg h0]
 by_cases h2:k=2
 ·rw [h2];exact q2 (hS 2 (by decide))
 rw [if_neg h2]
 by_cases h3:k=3
 ·rw [h3];exact q9 (hS 9 (by decide))
 rw [if_neg h3]
 by_cases h4:k=4
 ·rw [h4];exact q16 (hS 16 (by decide))
 rw [if_neg h4];exact r k h0 h2 h3 h4
theorem aA8 {np:Nat} {ar ce:Int} {T:List (Int × Int)} {x:InstrD} (h:fQ ar ce x=false):jT np ar ce T x=none:=by unfold jT;rw [h];rfl
theorem xX {np:Nat} {ar ce:Int} {T:List (Int × Int)} {x:InstrD} (h:fQ ar ce x=true):jT np ar ce T x=if (shp0 x.op).result=0 then some T else iX np T x.id (shp0 x.op).result:=by unfold jT;rw [h];rfl
theorem aCS {w:World} {bc bm:Nat} {ap:Option Addr} {np cp:Nat} {vb:Value} {ar ce:Int} {T:List (Int × Int)} {x:InstrD} {aa:Option Addr} {ca:Nat} (har:0 <= ar/\ar <= 8) (hce:0 <= ce/\ce <= 64)
  (hb:Box w bc (chk (.slice ap np cp) vb ar ce bm)) (hm:IMap w bm (encT T)) :
  Calls Tryz.prog 186 #[.pointer (some ⟨bc,0,none⟩),.agg (vI x aa ca)] w (iA (jT np ar ce T x) bm w):=by
 have HBC:=h! hb
 have HM:=h! hm
 have HNO:=h! (fun h=>aA8 (np:=np) (ar:=ar) (ce:=ce) (T:=T) (x:=x) h)
 have HYES:=h! (fun h=>xX (np:=np) (ar:=ar) (ce:=ce) (T:=T) (x:=x) h)
 have HOK:Hid (fQ ar ce x=((shp x.op).isSome && (x.args.length == (shp0 x.op).args.length) && nOk ar ce (shp0 x.op).n x.n && ((shp0 x.op).result != 0 || x.id == -1))):=h! rfl
 obtain ⟨r,hr⟩ : ∃ r,r=jT np ar ce T x:=⟨_,rfl⟩
 rw [<-hr] at HNO HYES ⊢
 clear hr hb hm
 obtain ⟨op,id,args,N⟩:=x
 unfold vI
 simp only at *
 obtain ⟨n,hn⟩ : ∃ n,n=args.length:=⟨_,rfl⟩
 rw [<-hn] at HOK ⊢
 clear hn
 go_enter Tryz.func186,Tryz.ntmps186
 go_upto_region 1 with (fail)
 have hA_:=(Below.refl w.heap.size w).alloc (aF _) (.cells #[.int .i64 op,.int .i64 id,.slice aa n ca,.int .i64 N] 69)
 have HW:=h! hA_
 clear hA_
 have B3:=h! (Box.new w #[.int .i64 op,.int .i64 id,.slice aa n ca,.int .i64 N] 69)
 generalize w.alloc (.cells #[.int .i64 op,.int .i64 id,.slice aa n ca,.int .i64 N] 69)=wv at *
 obtain ⟨lB3,cB3,fB3⟩:=B3.out
 go_wp2_with fail
 refine (yS op).mono ?_
 rintro e w1 ⟨u,rfl,hu,hb1⟩
 obtain ⟨ua,uc,rfl⟩:=hu.ints.form
 obtain ⟨s,hs⟩ : ∃ s,s=shp0 op:=⟨_,rfl⟩
 obtain ⟨ok,ho⟩ : ∃ ok,ok=(shp op).isSome:=⟨_,rfl⟩
 rw [<-hs, <-ho] at HOK
 rw [<-hs] at HYES
 simp only [<-hs, <-ho]
 clear hs ho hu
 obtain ⟨res,sargs,kn⟩:=s
 simp only at *
 obtain ⟨l,hl⟩ : ∃ l,l=sargs.length:=⟨_,rfl⟩
 rw [<-hl] at HOK ⊢
 clear hl
 clear lB3 cB3 fB3
 replace B3:=h! (B3.out.later hb1)
 replace HW:=h! (HW.out.trans (hb1.mono HW.out.size))
 clear hb1
 obtain ⟨lB3,cB3,fB3⟩:=B3.out
 go_upto_region 2 with (fail)
 have nB5B3:w1.heap.size ≠ w.heap.size:=fun e=>by have:=lB3;omega
 have nB3B5:w.heap.size ≠ w1.heap.size:=fun e=>nB5B3 e.symm
 clear lB3 cB3 fB3
 have hA_:=(Below.refl w1.heap.size w1).alloc (aF _) (.cells #[.int .i64 res,.slice ua l uc,.int .i64 kn] 249)
 replace B3:=h! (B3.out.later hA_)
 replace HW:=h! (HW.out.trans (hA_.mono HW.out.size))
 clear hA_
 have B5:=h! (Box.new w1 #[.int .i64 res,.slice ua l uc,.int .i64 kn] 249)
 generalize w1.alloc (.cells #[.int .i64 res,.slice ua l uc,.int .i64 kn] 249)=w5 at *
 obtain ⟨lB3,cB3,fB3⟩:=B3.out
 obtain ⟨lB5,cB5,fB5⟩:=B5.out
 cases ok
 ·go_wp2
  go_ret
  exact iA.no (HNO.out (by rw [HOK.out];rfl)) (Turn.of_below HW.out _)
 ·cases hln:((n:Int) != (l:Int))
  rotate_left
  ·have HLN:=h! hln
   go_wp2
   go_ret
   exact iA.no (HNO.out (by rw [HOK.out,show (n == l)=false by (have:=HLN.out;simp at this ⊢;omega)];rfl)) (Turn.of_below HW.out _)
  have HLN:Hid ((n == l)=true):=h! (by simp at hln ⊢;omega)
  rw [HLN.out,cQ,cQ] at HOK
  have hm1:IntKind.i64.wrap (ar - 1)=ar - 1:=by rw [fR];unfold wrap64;omega
  have hm2:IntKind.i64.wrap (ce - 1)=ce - 1:=by rw [fR];unfold wrap64;omega
  have HBR:=h! (HBC.out.later HW.out)
  go_upto_region 4 with (fail)
  refine pD 17 (MostI w5 ar ce) (by kernel_rfl) (by kernel_rfl) (MostI.start _ _ _) ?_
  simp only [aK,aR,aM,aT]
  refine Stat.op (v:=.map (some w5.heap.size)) rfl (fun S w' hE hS hI=>⟨w'.alloc (.map #[] 0),by rw [<-(hI.none hS).1];rfl,hI.make hS⟩) ?_
  simp only [Act.put,aA,aC,aD]
  refine Stat.still rfl (fun S w' hE hS hI=>hI.ins (hE 0 (by kernel_rfl)) rfl rfl rfl rfl (by simp)) ?_
  simp only [Act.put,aA,aC,aD]
  refine Stat.still rfl (fun S w' hE hS hI=>hI.ins (hE 0 (by kernel_rfl)) rfl rfl rfl rfl (by simp)) ?_
  simp only [Act.put,aA,aC,aD]
  refine Stat.val (v := ?_) rfl (fun S w' hE hS hI=>⟨?_,hI.plain _ (by decide)⟩) ?_
  rotate_left
  focus ((have cg1:=(HBR.out.later hI.below).at 1 (v:=.int .i64 ar) rfl);(have cg2:=(HBR.out.later hI.below).at 2 (v:=.int .i64 ce) rfl);clear hE hS hI;first | (go_simp;done) | (go_simp;with_reducible rfl))
  simp only [Act.put,aA,aC,aD]
  refine Stat.val (v := ?_) rfl (fun S w' hE hS hI=>⟨?_,hI.plain _ (by decide)⟩) ?_
  rotate_left
  focus ((have cg1:=(HBR.out.later hI.below).at 1 (v:=.int .i64 ar) rfl);(have cg2:=(HBR.out.later hI.below).at 2 (v:=.int .i64 ce) rfl);clear hE hS hI;first | (go_simp;done) | (go_simp;with_reducible rfl))
  simp only [Act.put,aA,aC,aD]
  refine Stat.val (v := ?_) rfl (fun S w' hE hS hI=>⟨?_,hI.plain _ (by decide)⟩) ?_
  rotate_left
  focus ((have cg1:=(HBR.out.later hI.below).at 1 (v:=.int .i64 ar) rfl);(have cg2:=(HBR.out.later hI.below).at 2 (v:=.int .i64 ce) rfl);clear hE hS hI;first | (go_simp;done) | (go_simp;with_reducible rfl))
  simp only [Act.put,aA,aC,aD]
  refine Stat.val (v := ?_) rfl (fun S w' hE hS hI=>⟨?_,hI.plain _ (by decide)⟩) ?_
  rotate_left
  focus ((have cg1:=(HBR.out.later hI.below).at 1 (v:=.int .i64 ar) rfl);(have cg2:=(HBR.out.later hI.below).at 2 (v:=.int .i64 ce) rfl);clear hE hS hI;first | (go_simp;done) | (go_simp;with_reducible rfl))
  simp only [Act.put,aA,aC,aD]
  refine Stat.val (v := ?_) rfl (fun S w' hE hS hI=>⟨?_,hI.plain _ (by decide)⟩) ?_
  rotate_left
  focus ((have cg1:=(HBR.out.later hI.below).at 1 (v:=.int .i64 ar) rfl);(have cg2:=(HBR.out.later hI.below).at 2 (v:=.int .i64 ce) rfl);clear hE hS hI;first | (go_simp;done) | (go_simp;with_reducible rfl))
  simp only [Act.put,aA,aC,aD]
  refine Stat.val (v := ?_) rfl (fun S w' hE hS hI=>⟨?_,hI.plain _ (by decide)⟩) ?_
  rotate_left
  focus ((have cg1:=(HBR.out.later hI.below).at 1 (v:=.int .i64 ar) rfl);(have cg2:=(HBR.out.later hI.below).at 2 (v:=.int .i64 ce) rfl);clear hE hS hI;first | (go_simp;done) | (go_simp;with_reducible rfl))
  simp only [Act.put,aA,aC,aD]
  refine Stat.still rfl (fun S w' hE hS hI=>hI.ins (hE 0 (by kernel_rfl)) rfl rfl rfl rfl (by simp)) ?_
  simp only [Act.put,aA,aC,aD]
  refine Stat.val (v := ?_) rfl (fun S w' hE hS hI=>⟨?_,hI.plain _ (by decide)⟩) ?_
  rotate_left
  focus ((have cg1:=(HBR.out.later hI.below).at 1 (v:=.int .i64 ar) rfl);(have cg2:=(HBR.out.later hI.below).at 2 (v:=.int .i64 ce) rfl);clear hE hS hI;first | (go_simp;done) | (go_simp;with_reducible rfl))
  simp only [Act.put,aA,aC,aD]
  refine Stat.val (v := ?_) rfl (fun S w' hE hS hI=>⟨?_,hI.plain _ (by decide)⟩) ?_
  rotate_left
  focus ((have cg1:=(HBR.out.later hI.below).at 1 (v:=.int .i64 ar) rfl);(have cg2:=(HBR.out.later hI.below).at 2 (v:=.int .i64 ce) rfl);clear hE hS hI;first | (go_simp;done) | (go_simp;with_reducible rfl))
  simp only [Act.put,aA,aC,aD]
  refine Stat.val (v := ?_) rfl (fun S w' hE hS hI=>⟨?_,hI.plain _ (by decide)⟩) ?_
  rotate_left
  focus ((have cg1:=(HBR.out.later hI.below).at 1 (v:=.int .i64 ar) rfl);(have cg2:=(HBR.out.later hI.below).at 2 (v:=.int .i64 ce) rfl);clear hE hS hI;first | (go_simp;done) | (go_simp;with_reducible rfl))
  simp only [Act.put,aA,aC,aD]
  refine Stat.val (v := ?_) rfl (fun S w' hE hS hI=>⟨?_,hI.plain _ (by decide)⟩) ?_
  rotate_left
  focus ((have cg1:=(HBR.out.later hI.below).at 1 (v:=.int .i64 ar) rfl);(have cg2:=(HBR.out.later hI.below).at 2 (v:=.int .i64 ce) rfl);clear hE hS hI;first | (go_simp;done) | (go_simp;with_reducible rfl))
  simp only [Act.put,aA,aC,aD]
  refine Stat.val (v := ?_) rfl (fun S w' hE hS hI=>⟨?_,hI.plain _ (by decide)⟩) ?_
  rotate_left
  focus ((have cg1:=(HBR.out.later hI.below).at 1 (v:=.int .i64 ar) rfl);(have cg2:=(HBR.out.later hI.below).at 2 (v:=.int .i64 ce) rfl);clear hE hS hI;first | (go_simp;done) | (go_simp;with_reducible rfl))
  simp only [Act.put,aA,aC,aD]
  refine Stat.val (v := ?_) rfl (fun S w' hE hS hI=>⟨?_,hI.plain _ (by decide)⟩) ?_
  rotate_left
  focus ((have cg1:=(HBR.out.later hI.below).at 1 (v:=.int .i64 ar) rfl);(have cg2:=(HBR.out.later hI.below).at 2 (v:=.int .i64 ce) rfl);clear hE hS hI;first | (go_simp;done) | (go_simp;with_reducible rfl))
  simp only [Act.put,aA,aC,aD]
  refine Stat.still rfl (fun S w' hE hS hI=>hI.ins (hE 0 (by kernel_rfl)) rfl rfl rfl rfl (by simp)) ?_
  simp only [Act.put,aA,aC,aD]
  intro S w6 hS hI
  obtain ⟨m,hIm,hget⟩:=hI.end hS
  have hb6:=hI.below
  have HI:=h! hIm
  have HG:=h! (hget kn)
  clear hI hS hIm hget hm1 hm2
  replace HBR:=h! (HBR.out.later hb6)
  clear lB3 cB3 fB3 lB5 cB5 fB5
  replace B3:=h! (B3.out.later hb6)
  replace B5:=h! (B5.out.later hb6)
  replace HW:=h! (HW.out.trans (hb6.mono HW.out.size))
  clear hb6
  obtain ⟨lB3,cB3,fB3⟩:=B3.out
  obtain ⟨lB5,cB5,fB5⟩:=B5.out
  have HMR:=h! (HM.out.later HW.out)
  cases htop:topN ar ce kn with
  | none =>
   have HT:=h! htop
   have HNK:Hid (fQ ar ce { op:=op,id:=id,args:=args,n:=N } = (res != 0 || id == -1)):=h! (by rw [HOK.out];unfold nOk;rw [HT.out];rfl)
   clear HOK htop
   rw [HT.out] at HG
   cases hres:(res == 0)
   ·have HRS:=h! hres
    go_wp2_with (at_lookup;refine fE (q:=.i64) (z:=.int .i64 0) (b:=w5.heap.size) (mm:=m) (y:=kn) rfl _ _ _ rfl Tryz.underlying74 Tryz.underlying3 (gT _) rfl HI.out rfl ?_;rw [HG.out])
    refine (vK HBR.out HMR.out id res).mono ?_
    rintro e w7 ⟨rfl,h7,t7⟩
    have H7:=h! h7
    have T7:=h! t7
    clear h7 t7
    go_wp2
    go_ret
    rw [HYES.out (by rw [HNK.out];simp;left;simpa using HRS.out),if_neg (by simpa using HRS.out)]
    exact ⟨rfl,H7.out,(Turn.of_below HW.out _).trans T7.out⟩
   have HRS:=h! hres
   cases hid:(id == -1)
   all_goals
    have HID:=h! hid
    go_wp2_with (at_lookup;refine fE (q:=.i64) (z:=.int .i64 0) (b:=w5.heap.size) (mm:=m) (y:=kn) rfl _ _ _ rfl Tryz.underlying74 Tryz.underlying3 (gT _) rfl HI.out rfl ?_;rw [HG.out])
    go_ret
   ·exact iA.no (HNO.out (by rw [HNK.out,HID.out];simp;simpa using HRS.out)) (Turn.of_below HW.out _)
   refine iA.yes (T:=T) ?_ HMR.out (Turn.of_below HW.out _)
   rw [HYES.out (by rw [HNK.out,HID.out];simp),if_pos (by simpa using HRS.out)]
  | some q =>
   have HT:=h! htop
   clear htop
   rw [HT.out] at HG
   cases hN0:decide (N < 0)
   rotate_left
   ·have HN0:=h! hN0
    go_wp2_with (at_lookup;refine fE (q:=.i64) (z:=.int .i64 0) (b:=w5.heap.size) (mm:=m) (y:=kn) rfl _ _ _ rfl Tryz.underlying74 Tryz.underlying3 (gT _) rfl HI.out rfl ?_;rw [HG.out])
    go_ret
    exact iA.no (HNO.out (by rw [HOK.out];unfold nOk;rw [HT.out];have:=HN0.out;simp at this ⊢;intro h;omega)) (Turn.of_below HW.out _)
   have HN0:=h! hN0
   cases hN1:decide (q < N)
   rotate_left
   ·have HN1:=h! hN1
    go_wp2_with (at_lookup;refine fE (q:=.i64) (z:=.int .i64 0) (b:=w5.heap.size) (mm:=m) (y:=kn) rfl _ _ _ rfl Tryz.underlying74 Tryz.underlying3 (gT _) rfl HI.out rfl ?_;rw [HG.out])
    go_ret
    exact iA.no (HNO.out (by rw [HOK.out];unfold nOk;rw [HT.out];have:=HN1.out;simp at this ⊢;intro h1 h2;omega)) (Turn.of_below HW.out _)
   have HN1:=h! hN1
   have HNK:Hid (fQ ar ce { op:=op,id:=id,args:=args,n:=N } = (res != 0 || id == -1)):=h! (by rw [HOK.out];unfold nOk;rw [HT.out];have h0:=HN0.out;have h1:=HN1.out;simp at h0 h1;simp [h0,h1])
   clear HOK
   cases hres:(res == 0)
   ·have HRS:=h! hres
    go_wp2_with (at_lookup;refine fE (q:=.i64) (z:=.int .i64 0) (b:=w5.heap.size) (mm:=m) (y:=kn) rfl _ _ _ rfl Tryz.underlying74 Tryz.underlying3 (gT _) rfl HI.out rfl ?_;rw [HG.out])
    refine (vK HBR.out HMR.out id res).mono ?_
    rintro e w7 ⟨rfl,h7,t7⟩
    have H7:=h! h7
    have T7:=h! t7
    clear h7 t7
    go_wp2
    go_ret
    rw [HYES.out (by rw [HNK.out];simp;left;simpa using HRS.out),if_neg (by simpa using HRS.out)]
    exact ⟨rfl,H7.out,(Turn.of_below HW.out _).trans T7.out⟩
   have HRS:=h! hres
   cases hid:(id == -1)
   all_goals
    have HID:=h! hid
    go_wp2_with (at_lookup;refine fE (q:=.i64) (z:=.int .i64 0) (b:=w5.heap.size) (mm:=m) (y:=kn) rfl _ _ _ rfl Tryz.underlying74 Tryz.underlying3 (gT _) rfl HI.out rfl ?_;rw [HG.out])
    go_ret
   ·exact iA.no (HNO.out (by rw [HNK.out,HID.out];simp;simpa using HRS.out)) (Turn.of_below HW.out _)
   refine iA.yes (T:=T) ?_ HMR.out (Turn.of_below HW.out _)
   rw [HYES.out (by rw [HNK.out,HID.out];simp),if_pos (by simpa using HRS.out)]
end Go.Proofs.YtcmflfkpeodicaaGreat
