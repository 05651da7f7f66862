/- Part 9. -/
import Derived.Test.YtgmhnepmkaonaaaGreatQA8
import Derived.Test.YtgmhnepmkaonaaaGreatQA6
import Derived.Test.YtgmhnepmkaonaaaGreatQA2
namespace Go.Proofs.YtgmhnepmkaonaaaGreat
set_option maxHeartbeats 3200000
set_option linter.unusedSimpArgs false
set_option linter.unusedVariables false
open Go.RowKit
theorem below_drewN {B:Nat} {a w:World} (h:Below B a w) (n:Nat):Below B a (w.drewN n):=⟨h.os,h.tape,h.output,h.size,h.block⟩
theorem sizeB_le {W:World} {v:Value} {bs:List BlockD} (h:SliceOf BlockR 6 W v bs):∀ b ∈ bs,1 <= sizeB b/\sizeB b <= 35184372088833:=by
 intro b hb
 obtain ⟨cs,_,h2⟩:=h
 obtain ⟨j,hj,rfl⟩:=List.getElem_of_mem hb
 obtain ⟨v,u,t,_,h3,h4,_⟩:=h2 j _ (List.getElem?_eq_getElem hj)
 have:=h3.le
 have:=h4.le
 unfold sizeB;omega
theorem sum_bound (l:List Int) (a b:Int) (h:∀ x ∈ l,a <= x/\x <= b):a * l.length <= l.sum/\l.sum <= b * l.length:=by
 induction l with
 | nil=>simp
 | cons x l ih =>
  have h1:=h x (by simp)
  have h2:=ih fun y hy=>h y (by simp [hy])
  simp only [List.sum_cons,List.length_cons,Int.natCast_add,Int.natCast_one,Int.mul_add,Int.mul_one]
  omega
theorem size_bound {W:World} {v:Value} {bs:List BlockD} (h:SliceOf BlockR 6 W v bs) (j:Nat) (hj:j <= 512):0 <= ((bs.take j).map sizeB).sum/\((bs.take j).map sizeB).sum <= 18014398509482496:=by
 have h1:=sum_bound ((bs.take j).map sizeB) 1 35184372088833 (fun x hx=>by
  obtain ⟨b,hb,rfl⟩:=List.mem_map.1 hx
  exact sizeB_le h b (List.mem_of_mem_take hb))
 rw [List.length_map,List.length_take] at h1
 omega
theorem sum_snoc (bs:List BlockD) (j:Nat) (x:BlockD) (h:bs[j]? = some x):((bs.take (j+1)).map sizeB).sum=((bs.take j).map sizeB).sum+sizeB x:=by
 rw [List.take_add_one,h,Option.toList_some,List.map_append,List.sum_append];simp
theorem chkSize {w:World} {bc:Nat} {vb:Value} {bs:List BlockD} (h3:w.cell? ⟨bc,3,none⟩=some vb) (hB:SliceOf BlockR 6 w vb bs) (hn:bs.length <= 512) :
  Calls Tryz.prog 121 #[.pointer (some ⟨bc,0,none⟩)] w fun e w'=>e = .returned (.int .i64 ((bs.map sizeB).sum))/\Below w.heap.size w w':=by
 have HSZ:=hd hB
 obtain ⟨a,cap,b,off,rfl,hc,hm,hl,ha,hx⟩:=blocks_parts hB
 have HA:=hd ha
 have HX:=hd hx
 clear ha hx hB hl
 obtain ⟨n,hnn⟩ : ∃ n,n=bs.length:=⟨_,rfl⟩
 rw [<-hnn] at h3 hc hn HA
 have HN:=hd hnn
 clear hnn
 go_enter Tryz.func121,Tryz.ntmps121
 go_wp2
 go_loopw [3,12] (fun s i wr => ∃ j:Nat,j <= n/\i = .int .i64 j/\s = .int .i64 ((bs.take j).map sizeB).sum/\Below w.heap.size w wr) (fun _ i _=>n - (intOf i).toNat)
 case atStart=>exact ⟨0,Nat.zero_le _,rfl,rfl,Below.refl _ _⟩
 case round =>
  obtain ⟨j,hj,rfl,rfl,hW⟩:=hrel
  have HW:=hd hW
  clear hW
  by_cases hlt:j < n
  ·have hne:0 < n:=by omega
   obtain ⟨rfl,hbw⟩:=HA.out hne
   have hjx:bs[j]? = some bs[j]:=List.getElem?_eq_getElem (by have:=HN.out;omega)
   obtain ⟨x,hxe⟩ : ∃ x,x=bs[j]'(by have:=HN.out;omega):=⟨_,rfl⟩
   rw [<-hxe] at hjx
   clear hxe
   obtain ⟨ap,ai,at_,cp,ci,ct,hC⟩:=HX.out j x hjx
   obtain ⟨c0,c1,c2,c3,c4,c5,h6,h7,h8,h9,h10,h11⟩:=hC.below HW.out hbw
   have hs0:=size_bound HSZ.out j (by omega)
   have hl1:=h6.le
   have hl2:=h7.le
   have HSN:=hd (sum_snoc bs j x hjx)
   have hsx:sizeB x=x.phis.length+x.code.length+1:=rfl
   rw [hsx] at HSN
   clear h6 h7 h8 h9 h10 h11 hC hjx hsx
   generalize ((bs.take j).map sizeB).sum=s at *
   go_wp2
   go_roundw
   case rel=>exact ⟨j+1,hlt,by go_num,by rw [HSN.out],HW.out.alloc HW.out.size _⟩
   case measure=>simp [intOf];omega
  ·obtain rfl:j=n:=by omega
   go_wp2
   go_ret
   rw [List.take_of_length_le (by have:=HN.out;omega)]
   exact ⟨rfl,HW.out⟩
open Go Go.RowKit
section
variable {P:Program} {ops:Array Oper}
def Stat (P:Program) (ops:Array Oper) (Inv:(Nat -> Prop) -> World -> Prop) (L:Act -> World -> Prop):List Oper -> Nat -> Act -> Prop
 | [],k,a => ∀ S w',(∀ j,j < k -> S j) -> Inv S w' -> L a w'
 | o :: rest,k,a=>Region.wanted o (yielded ops a.tmps)=true /\ ∃ v,
   (∀ S w',(∀ j,hasEdge ops k j=true -> S j) -> ¬ S k -> Inv S w' -> ∃ w'',((execOp a.eval o).run P w' = .ok (.value v) w'' \/ ((execOp a.eval o).run P w' = .ok .skip w'' /\ v=undef))/\Inv (fun j=>j=k \/ S j) w'') /\
    Stat P ops Inv L rest (k+1) (a.put o.dst v)
theorem Stat.val {Inv:(Nat -> Prop) -> World -> Prop} {L:Act -> World -> Prop} {o:Oper} {rest:List Oper} {k:Nat} {a:Act} {v:Value} (hg:Region.wanted o (yielded ops a.tmps)=true)
  (hy:∀ S w',(∀ j,hasEdge ops k j=true -> S j) -> ¬ S k -> Inv S w' -> (execOp a.eval o).run P w' = .ok (.value v) w' /\ Inv (fun j=>j=k \/ S j) w') (h:Stat P ops Inv L rest (k+1) (a.put o.dst v)):Stat P ops Inv L (o :: rest) k a :=
 ⟨hg,v,fun S w' h1 h2 h3=>⟨w',.inl (hy S w' h1 h2 h3).1,(hy S w' h1 h2 h3).2⟩,h⟩
theorem Stat.op {Inv:(Nat -> Prop) -> World -> Prop} {L:Act -> World -> Prop} {o:Oper} {rest:List Oper} {k:Nat} {a:Act} {v:Value} (hg:Region.wanted o (yielded ops a.tmps)=true)
  (hy:∀ S w',(∀ j,hasEdge ops k j=true -> S j) -> ¬ S k -> Inv S w' -> ∃ w'',(execOp a.eval o).run P w' = .ok (.value v) w'' /\ Inv (fun j=>j=k \/ S j) w'') (h:Stat P ops Inv L rest (k+1) (a.put o.dst v)):Stat P ops Inv L (o :: rest) k a :=
 ⟨hg,v,fun S w' h1 h2 h3=>let ⟨w'',q1,q2⟩:=hy S w' h1 h2 h3; ⟨w'',.inl q1,q2⟩,h⟩
theorem Stat.still {Inv:(Nat -> Prop) -> World -> Prop} {L:Act -> World -> Prop} {o:Oper} {rest:List Oper} {k:Nat} {a:Act} (hg:Region.wanted o (yielded ops a.tmps)=true)
  (hy:∀ S w',(∀ j,hasEdge ops k j=true -> S j) -> ¬ S k -> Inv S w' -> ∃ w'',(execOp a.eval o).run P w' = .ok .skip w'' /\ Inv (fun j=>j=k \/ S j) w'') (h:Stat P ops Inv L rest (k+1) (a.put o.dst undef)):Stat P ops Inv L (o :: rest) k a :=
 ⟨hg,undef,fun S w' h1 h2 h3=>let ⟨w'',q1,q2⟩:=hy S w' h1 h2 h3; ⟨w'',.inr ⟨q1,rfl⟩,q2⟩,h⟩
structure STold (P:Program) (ops:Array Oper) (n:Nat) (Inv:(Nat -> Prop) -> World -> Prop) (L:Act -> World -> Prop) (a0:Act) (vals:Nat -> Value):Prop where
 step:∀ k o,ops[k]? = some o -> k < n -> ∃ b,Fr ops n a0 vals (· < k) b/\Region.wanted o (yielded ops b.tmps)=true /\
  ∀ S w',(∀ j,hasEdge ops k j=true -> S j) -> ¬ S k -> Inv S w' -> ∃ w'',((execOp b.eval o).run P w' = .ok (.value (vals k)) w'' \/ ((execOp b.eval o).run P w' = .ok .skip w'' /\ vals k=undef))/\Inv (fun j=>j=k \/ S j) w''
 done:∃ b,Fr ops n a0 vals (· < n) b /\ ∀ S w',(∀ j,j < n -> S j) -> Inv S w' -> L b w'
theorem stold_from {n:Nat} {Inv:(Nat -> Prop) -> World -> Prop} {L:Act -> World -> Prop} {a0:Act} (ht:tidyB ops n=true) :
  ∀ (l:List Oper) (k:Nat) (a:Act) (v0:Nat -> Value),(∀ j,j < l.length -> ops[k+j]? = l[j]?) -> k+l.length=n -> Fr ops n a0 v0 (· < k) a -> Stat P ops Inv L l k a ->
   ∃ vals:Nat -> Value,(∀ j,j < k -> vals j=v0 j)/\(∀ j o,ops[j]? = some o -> k <= j -> j < n -> ∃ b,Fr ops n a0 vals (· < j) b/\Region.wanted o (yielded ops b.tmps)=true /\
    ∀ S w',(∀ i,hasEdge ops j i=true -> S i) -> ¬ S j -> Inv S w' -> ∃ w'',((execOp b.eval o).run P w' = .ok (.value (vals j)) w'' \/ ((execOp b.eval o).run P w' = .ok .skip w'' /\ vals j=undef))/\Inv (fun i=>i=j \/ S i) w'') /\
    ∃ b,Fr ops n a0 vals (· < n) b /\ ∀ S w',(∀ j,j < n -> S j) -> Inv S w' -> L b w'
 | [],k,a,v0,_,hk,hf,h=>by
  have hk' : k=n:=by simpa using hk
  subst hk'
  exact ⟨v0,fun _ _=>rfl,fun j o _ h1 h2=>by omega,a,hf,h⟩
 | o :: rest,k,a,v0,hl,hk,hf,h=>by
  simp only [List.length_cons] at hk
  have ho:ops[k]? = some o:=by simpa using hl 0 (by simp)
  have hl' : ∀ j,j < rest.length -> ops[k+1+j]? = rest[j]?:=fun j hj=>by
   have:=hl (j+1) (by simp;omega)
   simpa [Nat.add_assoc,Nat.add_comm 1 j] using this
  obtain ⟨hw,v,hs,hg⟩:=h
  let v1:Nat -> Value:=fun j=>if j=k then v else v0 j
  have e1:∀ j,j < k -> v1 j=v0 j:=fun j hj=>by simp only [v1];rw [if_neg (by omega)]
  have ek:v1 k=v:=by simp [v1]
  have hf1:Fr ops n a0 v1 (· < k) a:=hf.congr (fun j _ hj=>(e1 j hj).symm) (fun _ _=>Iff.rfl)
  have hf2:=hf1.put ht ho (by omega)
  rw [ek] at hf2
  have hf3:Fr ops n a0 v1 (· < k+1) (a.put o.dst v):=hf2.congr (fun _ _ _=>rfl) (fun j _=>by omega)
  obtain ⟨vals,hv,hst,hd⟩:=stold_from ht rest (k+1) _ v1 hl' (by omega) hf3 hg
  refine ⟨vals,fun j hj=>(hv j (by omega)).trans (e1 j hj),fun j oj hj hkj hjn => ?_,hd⟩
  by_cases hjk:j=k
  ·subst hjk
   rw [ho] at hj
   cases hj
   refine ⟨a,hf1.congr (fun i _ hi=>(hv i (by omega)).symm) (fun _ _=>Iff.rfl),hw, ?_⟩
   rw [hv j (by omega),ek]
   exact hs
  ·exact hst j oj hj (by omega) hjn
theorem stat_any {n:Nat} {Inv:(Nat -> Prop) -> World -> Prop} {Q:Exit -> Act -> World -> Prop} {tail:List Oper} {a0:Act} {vals:Nat -> Value} (hB:growB ops n=true)
  (htail:∀ j,tail[j]? = ops[n+j]?) (htold:STold P ops n Inv (wpList P ops Q tail) a0 vals) :
  ∀ (m:Nat) (listed:Array Bool) (a:Act) (w:World),HeadInv .any ops n listed -> cnt listed n=m -> Inv (fun j=>listed.getD j false=true) w ->
   Fr ops n a0 vals (fun j=>listed.getD j false=true) a -> wpAny P .any ops Q (m+(ops.size - n)) listed a w:=by
 simp only [growB,Bool.and_eq_true,Bool.or_eq_true,decide_eq_true_eq,beq_iff_eq] at hB
 obtain ⟨⟨⟨⟨⟨hsel,hn⟩,hed⟩,ht⟩,hsc⟩,hseq⟩:=hB
 intro m
 induction m with
 | zero =>
  intro listed a w inv hcnt hI hfr
  have hlen:tail.length=ops.size - n:=by
   apply Nat.le_antisymm
   ·by_cases hle:tail.length <= ops.size - n
    ·exact hle
    ·have h1:=htail (ops.size - n)
     rw [Array.getElem?_eq_none (by omega)] at h1
     have:=List.getElem?_eq_none_iff.1 h1
     omega
   ·by_cases hle:ops.size - n <= tail.length
    ·exact hle
    ·have h1:=htail tail.length
     rw [List.getElem?_eq_none (Nat.le_refl _)] at h1
     have:=Array.getElem?_eq_none_iff.1 h1.symm
     omega
  have hl:∀ j,j < n -> listed.getD j false=true:=fun j hj=>getD_true_of (cnt_zero n hcnt j hj) (by rw [inv.size];omega)
  have hlist:listed=headArr ops.size n:=by
   apply Array.ext_getElem?
   intro j
   by_cases hj:j < ops.size
   ·have e2:(headArr ops.size n)[j]? = some (decide (j < n)):=by simp [headArr,hj]
    rw [e2]
    by_cases hjn:j < n
    ·have:=hl j hjn
     rw [Array.getD_eq_getD_getElem?] at this
     cases hx:listed[j]? with
     | none=>rw [hx] at this;cases this
     | some b=>rw [hx] at this;simp at this;rw [this,decide_eq_true hjn]
    ·have:=inv.tail j (by omega) hj
     rw [Array.getD_eq_getD_getElem?] at this
     cases hx:listed[j]? with
     | none=>rw [hx] at this;cases this
     | some b=>rw [hx] at this;simp at this;rw [this,decide_eq_false hjn]
   ·rw [Array.getElem?_eq_none (by rw [inv.size];omega),Array.getElem?_eq_none (by simp [headArr];omega)]
  obtain ⟨b,hb1,hb2⟩:=htold.done
  have hab:a=b:=hfr.eq hb1 fun j hj=>⟨fun _=>hj,fun _=>hl j hj⟩
  subst hab
  have:=wpAny_of_seq (md:=.any) (Q':=Q) tail n listed a w htail (by rw [hlist,hlen];exact hseq) (hb2 _ w (fun j hj=>hl j hj) hI)
  rw [hlen] at this
  rw [Nat.zero_add]
  exact this
 | succ m ih =>
  intro listed a w inv hcnt hI hfr
  rw [show m+1+(ops.size - n)=(m+(ops.size - n))+1 by omega]
  obtain ⟨k0,hk0,hu0,hless⟩:=cnt_least (listed:=listed) n (by omega)
  have hready0:k0 ∈ Region.ready .any ops listed:=by
   refine mem_ready.2 ⟨hu0,ops[k0],Array.getElem?_eq_getElem (by omega),fun e he hbi => ?_⟩
   have:=edgesB_spec hed hk0 (Array.getElem?_eq_getElem (by omega)) he hbi
   exact getD_true_of (hless _ this) (by rw [inv.size];omega)
  refine ⟨fun h0=>(by rw [h0] at hready0;cases hready0),fun i hi => ?_⟩
  have hin:i < n:=by
   rcases Nat.lt_or_ge i n with h | h
   ·exact h
   ·rcases hsc with h1 | h1
    ·obtain ⟨_,o,ho,_⟩:=mem_ready.1 hi
     have:=(Array.getElem?_eq_some_iff.1 ho).1
     omega
    ·by_cases hns:n < ops.size
     ·exact absurd hi (tail_waits h1.1 h1.2 hns inv _ k0 rfl hk0 hu0 i h)
     ·obtain ⟨_,o,ho,_⟩:=mem_ready.1 hi
      have:=(Array.getElem?_eq_some_iff.1 ho).1
      omega
  obtain ⟨hun,o,ho,hedge⟩:=mem_ready.1 hi
  have hinv':=inv.set hi hin
  have hcnt' : cnt (listed.setIfInBounds i true) n=m:=by
   have:=(cnt_set (by rw [inv.size];omega) hun n).2 hin
   omega
  have hset:∀ j,(listed.setIfInBounds i true).getD j false=true ↔ (j=i \/ listed.getD j false=true):=fun j=>by
   by_cases e:i=j
   ·subst e
    have:i < listed.size:=by rw [inv.size];omega
    simp [this]
   ·rw [getD_set_ne false e]
    exact ⟨fun h=>.inr h,fun h=>h.resolve_left (fun e'=>e e'.symm)⟩
  have heq:(fun j=>(listed.setIfInBounds i true).getD j false=true)=fun j=>j=i \/ listed.getD j false=true:=funext fun j=>propext (hset j)
  obtain ⟨b,hfb,hwant,hstep⟩:=htold.step i o ho hin
  have hpre:∀ j,hasEdge ops i j=true -> listed.getD j false=true:=fun j hj=>by
   obtain ⟨oj,hoj,e,hem,hbi,hon⟩:=hasEdge_spec hj
   rw [ho] at hoj
   cases hoj
   rw [<-hon]
   exact hedge e hem hbi
  have hlook:∀ d,d ∈ o.looksAt ops -> a.tmps[d]? = b.tmps[d]?:=fun d hd=>Fr.same ht hfr hfb ho hin (fun j hj he hji=>⟨hpre j he,hji,rfl⟩) d hd
  obtain ⟨ex,ew⟩:=exec_same (ops:=ops) (o:=o) (fun cs b=>Region.noSelect_spec hsel i o cs b ho) hlook
  have hnot:¬ listed.getD i false=true:=by
   intro h
   have:i < listed.size:=by rw [inv.size];have:=(Array.getElem?_eq_some_iff.1 ho).1;omega
   simp [this] at h hun
   rw [h] at hun;cases hun
  obtain ⟨w',hr,hI'⟩:=hstep (fun j=>listed.getD j false=true) w hpre hnot hI
  have next:wpAny P .any ops Q (m+(ops.size - n)) (listed.setIfInBounds i true) (a.put o.dst (vals i)) w' :=
   ih _ _ w' hinv' hcnt' (by rw [heq];exact hI') ((hfr.put ht ho hin).congr (fun _ _ _=>rfl) (fun j _=>(hset j).symm))
  unfold wpOp
  simp only [ho]
  rw [ew,if_pos hwant]
  left
  unfold Oper.wp
  rw [ex]
  rcases hr with hr | ⟨hr,hv⟩
  ·rw [hr];exact next
  ·rw [hr,Oper.upon_skip, <-hv];exact next
theorem wp_region_state {id:Nat} {Q:Exit -> Act -> World -> Prop} {a:Act} {w:World} {l:List Oper} (n:Nat) (Inv:(Nat -> Prop) -> World -> Prop) (hm:P.follows .mixedOrders=true) (hB:growB l.toArray n=true)
  (h0:Inv (fun _=>False) w.drew) (h:Stat P l.toArray Inv (wpList P l.toArray Q (l.drop n)) (l.take n) 0 a):(Code.region id l.toArray true).wp P Q a w:=by
 have hB':=hB
 simp only [growB,Bool.and_eq_true,Bool.or_eq_true,decide_eq_true_eq,beq_iff_eq] at hB
 obtain ⟨⟨⟨⟨⟨hsel,hn⟩,hed⟩,ht⟩,hsc⟩,hseq⟩:=hB
 have hn' : n <= l.length:=by simpa using hn
 obtain ⟨vals,_,h1,h2⟩:=stold_from (ops:=l.toArray) ht (l.take n) 0 a (fun _=>undef) (fun j hj=>by
  have hj' : j < n:=by simp at hj;omega
  simp [hj']) (by simp;omega) (Fr.start fun j _ hj=>by omega) h
 have htold:STold P l.toArray n Inv (wpList P l.toArray Q (l.drop n)) a vals:=⟨fun k o hk hkn=>h1 k o hk (by omega) hkn,h2⟩
 refine wp_region_any hm ?_
 have inv0:HeadInv .any l.toArray n (Array.replicate l.toArray.size false) :=
  ⟨by simp,fun j oj _ hl=>(by rw [getD_replicate_false] at hl;cases hl),fun t _ ht=>getD_in (by simpa using ht) (getD_replicate_false _ _)⟩
 have hc:∀ m,m <= l.toArray.size -> cnt (Array.replicate l.toArray.size false) m=m:=by
  intro m
  induction m with
  | zero=>intro _;rfl
  | succ m ih =>
   intro hm
   have:(Array.replicate l.toArray.size false).getD m true=false:=getD_in (by simp at hm ⊢;omega) (getD_replicate_false _ _)
   simp only [cnt]
   rw [ih (by omega),this]
   simp
 have heq:(fun j=>(Array.replicate l.toArray.size false).getD j false=true)=fun _=>False:=funext fun j=>propext ⟨fun hl=>(by rw [getD_replicate_false] at hl;cases hl),fun h=>h.elim⟩
 have:=stat_any (P:=P) (Q:=Q) (tail:=l.drop n) hB' (fun j=>by simp [List.getElem?_drop]) htold n (Array.replicate l.toArray.size false) a w.drew inv0 (hc n hn) (by rw [heq];exact h0) (Fr.start fun j _ hl=>by rw [getD_replicate_false] at hl;cases hl)
 rw [show n+(l.toArray.size - n)=l.toArray.size by omega] at this
 exact this
end
end Go.Proofs.YtgmhnepmkaonaaaGreat
