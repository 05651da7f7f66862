/- What the claim needs,part 48. -/
import Derived.Test.YtblgdccoeecodaaQ347
import Derived.Test.YtblgdccoeecodaaQ332
import Derived.OwnWalk
namespace Go.Proofs.Ytblgdccoeecodaa
set_option linter.unusedSimpArgs false
set_option linter.unusedVariables false
open Go.RowKit
noncomputable def comeF (f:FuncD) (d:Nat):Bool:=@decide (Way (toB f) (-1) d) (Classical.propDecidable _)
theorem come_iff {f:FuncD} {d:Nat}:comeF f d=true ↔ Way (toB f) (-1) d:=by unfold comeF;simp
def numN (c:Nat -> Bool) (d:Nat):Nat:=((List.range d).filter c).length
theorem numN_succ (c:Nat -> Bool) (d:Nat):numN c (d+1)=if c d then numN c d+1 else numN c d:=by
 unfold numN
 rw [List.range_succ,List.filter_append,List.length_append]
 cases h:c d <;> simp [h]
theorem numN_zero (c:Nat -> Bool):numN c 0=0:=rfl
theorem numN_le (c:Nat -> Bool) (d:Nat):numN c d <= d:=by
 induction d with
 | zero=>exact Nat.le_refl _
 | succ d ih=>rw [numN_succ];split <;> omega
theorem numN_all {c:Nat -> Bool} {d:Nat} (h:∀ a,a < d -> c a=true):numN c d=d:=by
 induction d with
 | zero=>rfl
 | succ d ih=>rw [numN_succ,if_pos (h d (by omega)),ih fun a ha=>h a (by omega)]
def pruneP (c:Nat -> Bool) (p:PhiD):PhiD := { p with src:=((p.src.zip p.vals).filter fun q=>c q.1.toNat).map (fun q=>((numN c q.1.toNat:Nat):Int)),vals:=((p.src.zip p.vals).filter fun q=>c q.1.toNat).map (·.2) }
def pruneB (c:Nat -> Bool) (x:BlockD):BlockD := { x with phis:=x.phis.map (pruneP c),term := { x.term with to:=x.term.to.map fun t=>((numN c t.toNat:Nat):Int) } }
def keptB (c:Nat -> Bool) (f:FuncD) (i:Nat):List BlockD:=((f.blocks.take i).zipIdx.filter fun b=>c b.2).map (·.1)
def prunedC (c:Nat -> Bool) (f:FuncD):FuncD := { f with blocks:=(keptB c f f.blocks.length).map (pruneB c) }
noncomputable def prunedF (f:FuncD):FuncD:=prunedC (comeF f) f
noncomputable def pruneF (f:FuncD):FuncD × Int:=if checkF f ≠ 0 then (zeroF,checkF f) else if checkF (prunedF f) ≠ 0 then (zeroF,checkF (prunedF f)) else (prunedF f,0)
theorem kept_succ {c:Nat -> Bool} {f:FuncD} {i:Nat} {x:BlockD} (h:f.blocks[i]? = some x):keptB c f (i+1)=if c i then keptB c f i ++ [x] else keptB c f i:=by
 have hl:=(List.getElem?_eq_some_iff.1 h).1
 unfold keptB
 rw [List.take_add_one,h,Option.toList_some,List.zipIdx_append,List.filter_append,List.map_append]
 have:0+(f.blocks.take i).length=i:=by rw [List.length_take];omega
 rw [this]
 cases hc:c i <;> simp [hc]
theorem kept_len {c:Nat -> Bool} {f:FuncD} {i:Nat} (h:i <= f.blocks.length):(keptB c f i).length=numN c i:=by
 induction i with
 | zero=>rfl
 | succ i ih =>
  obtain ⟨x,hx⟩ : ∃ x,f.blocks[i]? = some x:=⟨_,List.getElem?_eq_getElem (by omega)⟩
  rw [kept_succ hx,numN_succ]
  split
  ·rw [List.length_append,ih (by omega)];rfl
  ·exact ih (by omega)
theorem kept_at {c:Nat -> Bool} {f:FuncD} {n d:Nat} {x:BlockD} (hx:f.blocks[d]? = some x) (hd:d < n) (hn:n <= f.blocks.length) (hc:c d=true):(keptB c f n)[numN c d]? = some x:=by
 induction n with
 | zero=>omega
 | succ n ih =>
  obtain ⟨y,hy⟩ : ∃ y,f.blocks[n]? = some y:=⟨_,List.getElem?_eq_getElem (by omega)⟩
  rw [kept_succ hy]
  by_cases e:d=n
  ·subst e
   rw [hx] at hy;cases hy
   rw [if_pos hc,List.getElem?_append_right (by rw [kept_len (by omega)];exact Nat.le_refl _),kept_len (by omega),Nat.sub_self];rfl
  ·have h1:=ih (by omega) (by omega)
   have h2:=(List.getElem?_eq_some_iff.1 h1).1
   split
   ·rw [List.getElem?_append_left h2];exact h1
   ·exact h1
theorem kept_from {c:Nat -> Bool} {f:FuncD} {n:Nat} (hn:n <= f.blocks.length) {j:Nat} (hj:j < numN c n):∃ d x,d < n/\c d=true/\numN c d=j/\f.blocks[d]? = some x/\(keptB c f n)[j]? = some x:=by
 induction n with
 | zero=>rw [numN_zero] at hj;omega
 | succ n ih =>
  obtain ⟨y,hy⟩ : ∃ y,f.blocks[n]? = some y:=⟨_,List.getElem?_eq_getElem (by omega)⟩
  rw [numN_succ] at hj
  by_cases h:j < numN c n
  ·obtain ⟨d,x,h1,h2,h3,h4,h5⟩:=ih (by omega) h
   exact ⟨d,x,by omega,h2,h3,h4,by rw [<-h3];exact kept_at h4 (by omega) hn h2⟩
  ·have hc:c n=true:=by
    cases hc:c n with
    | true=>rfl
    | false=>rw [hc] at hj;simp at hj;omega
   rw [hc] at hj
   simp only [if_true] at hj
   have:numN c n=j:=by omega
   exact ⟨n,y,by omega,hc,this,hy,by rw [<-this];exact kept_at hy (by omega) hn hc⟩
theorem pruned_len (f:FuncD) (c:Nat -> Bool):(prunedC c f).blocks.length=numN c f.blocks.length:=by
 unfold prunedC;simp only [List.length_map];exact kept_len (Nat.le_refl _)
theorem pruned_at {c:Nat -> Bool} {f:FuncD} {d:Nat} {x:BlockD} (hx:f.blocks[d]? = some x) (hc:c d=true):(prunedC c f).blocks[numN c d]? = some (pruneB c x):=by
 unfold prunedC
 simp only [List.getElem?_map]
 rw [kept_at hx (List.getElem?_eq_some_iff.1 hx).1 (Nat.le_refl _) hc];rfl
theorem come_all_kept {c:Nat -> Bool} {f:FuncD} {n:Nat} (hn:n <= f.blocks.length) (h:∀ d,d < n -> c d=true):keptB c f n=f.blocks.take n:=by
 induction n with
 | zero=>rfl
 | succ n ih =>
  obtain ⟨y,hy⟩ : ∃ y,f.blocks[n]? = some y:=⟨_,List.getElem?_eq_getElem (by omega)⟩
  rw [kept_succ hy,if_pos (h n (by omega)),ih (by omega) (fun d hd=>h d (by omega)),List.take_add_one,hy];rfl
theorem map_same {α : Type} {g : α -> α} {l:List α} (h:∀ x ∈ l,g x=x):l.map g=l:=by
 induction l with
 | nil=>rfl
 | cons x l ih=>rw [List.map_cons,h x (by simp),ih fun y hy=>h y (List.mem_cons_of_mem _ hy)]
theorem pruned_all {f:FuncD} {c:Nat -> Bool} (hf:formB f=true) (h:∀ d,d < f.blocks.length -> c d=true):prunedC c f=f:=by
 have hnum:∀ d,d < f.blocks.length -> numN c d=d:=fun d hd=>numN_all fun a ha=>h a (by omega)
 obtain ⟨ps,ar,ce,bs⟩:=f
 unfold prunedC
 simp only at h hnum ⊢
 congr 1
 have h1:keptB c ⟨ps,ar,ce,bs⟩ bs.length=bs:=by
  have:=come_all_kept (c:=c) (f:=⟨ps,ar,ce,bs⟩) (n:=bs.length) (Nat.le_refl _) h
  rw [this];exact List.take_length
 rw [h1]
 refine map_same fun x hx => ?_
 obtain ⟨i,hi⟩:=List.getElem?_of_mem hx
 have hok:blockOk bs.length ar ce (x,i)=true:=by
  unfold formB at hf
  simp only [Bool.and_eq_true,List.all_eq_true] at hf
  exact hf.2 (x,i) (by rw [List.mem_zipIdx_iff_getElem?];exact hi)
 obtain ⟨-,q2, -,q4⟩:=blockOk_parts.1 hok
 obtain ⟨phis,code,op,val,to,n⟩:=x
 unfold pruneB
 simp only at q2 q4 ⊢
 congr 1
 ·refine map_same fun p hp => ?_
  have hp2:=q2 p hp
  unfold phiOk at hp2
  simp only [Bool.and_eq_true,List.all_eq_true,beq_iff_eq] at hp2
  obtain ⟨⟨⟨-,hl⟩,hn⟩, -⟩:=hp2
  have hin:∀ q ∈ p.src.zip p.vals,c q.1.toNat=true/\((numN c q.1.toNat:Nat):Int)=q.1:=fun q hq=>by
   have h9:=hn q.1 (List.of_mem_zip hq).1
   unfold numB at h9
   simp at h9
   exact ⟨h _ (by omega),by rw [hnum _ (by omega)];omega⟩
  obtain ⟨id,typ,src,vals⟩:=p
  unfold pruneP
  simp only at hl hin ⊢
  have hfl:(src.zip vals).filter (fun q=>c q.1.toNat)=src.zip vals:=List.filter_eq_self.2 fun q hq=>(hin q hq).1
  rw [hfl]
  have e1:(src.zip vals).map (fun q=>((numN c q.1.toNat:Nat):Int))=src:=by
   rw [List.map_congr_left fun q hq=>(hin q hq).2]
   show (src.zip vals).map Prod.fst=src
   exact List.map_fst_zip (by omega)
  have e2:(src.zip vals).map (·.2)=vals:=List.map_snd_zip (by omega)
  rw [e1,e2]
 ·congr 1
  refine map_same fun t ht => ?_
  obtain ⟨k,hk⟩:=List.getElem?_of_mem ht
  have:=endOk_to q4 hk
  rw [hnum _ (by omega)];omega
theorem toB_pruned {c:Nat -> Bool} {f:FuncD} {d:Nat} (hd:d < f.blocks.length) (hc:c d=true):toB (prunedC c f) (numN c d)=(toB f d).map (numN c):=by
 obtain ⟨x,hx⟩ : ∃ x,f.blocks[d]? = some x:=⟨_,List.getElem?_eq_getElem hd⟩
 rw [toB_at (pruned_at hx hc),toB_at hx]
 unfold pruneB
 simp only [List.map_map]
 apply List.map_congr_left
 intro t _
 simp
theorem way_lt {f:FuncD} (hf:formB f=true) {d:Nat} (h:Way (toB f) (-1) d):d < f.blocks.length:=by
 cases h with
 | zero _=>exact (formB_nb hf).1
 | step _ h5 _=>exact (to_lt hf h5).1
theorem way_pruned {f:FuncD} (hf:formB f=true) {d:Nat} (h:Way (toB f) (-1) d):Way (toB (prunedF f)) (-1) (numN (comeF f) d):=by
 induction h with
 | zero h=>exact .zero h
 | @step b t hw ht hne ih =>
  refine .step ih ?_ (by omega)
  show numN (comeF f) t ∈ toB (prunedC (comeF f) f) _
  rw [toB_pruned (way_lt hf hw) (come_iff.2 hw),List.mem_map]
  exact ⟨t,ht,rfl⟩
theorem pruned_come {f:FuncD} (hf:formB f=true):∀ d,d < (prunedF f).blocks.length -> Way (toB (prunedF f)) (-1) d:=fun d hd=>by
 have h1:(prunedF f).blocks.length=numN (comeF f) f.blocks.length:=pruned_len f _
 rw [h1] at hd
 obtain ⟨a,x,_,h2,h3,_,_⟩:=kept_from (f:=f) (Nat.le_refl _) hd
 rw [<-h3]
 exact way_pruned hf (come_iff.1 h2)
theorem pruned_self {f:FuncD} (hf:formB f=true) (h:∀ d,d < f.blocks.length -> Way (toB f) (-1) d):prunedF f=f:=pruned_all hf fun d hd=>come_iff.2 (h d hd)
theorem prune_self {f:FuncD} (hc:checkF f=0) (h:∀ d,d < f.blocks.length -> Way (toB f) (-1) d):pruneF f=(f,0):=by
 unfold pruneF
 rw [pruned_self (check_fine hc).1 h,if_neg (by simp [hc]),if_neg (by simp [hc])]
theorem prune_twice {f:FuncD} (h:(pruneF f).2=0):checkF f=0/\checkF (prunedF f)=0/\pruneF f=(prunedF f,0)/\pruneF (prunedF f)=(prunedF f,0) /\ ∀ d,d < (prunedF f).blocks.length -> Way (toB (prunedF f)) (-1) d:=by
 have hp:pruneF f=if checkF f ≠ 0 then (zeroF,checkF f) else if checkF (prunedF f) ≠ 0 then (zeroF,checkF (prunedF f)) else (prunedF f,0):=rfl
 rw [hp] at h
 by_cases h1:checkF f=0
 ·rw [if_neg (by simp [h1])] at h
  by_cases h2:checkF (prunedF f)=0
  ·have h3:=pruned_come (check_fine h1).1
   exact ⟨h1,h2,by rw [hp,if_neg (by simp [h1]),if_neg (by simp [h2])],prune_self h2 h3,h3⟩
  ·rw [if_pos h2] at h;exact absurd h h2
 ·rw [if_pos h1] at h;exact absurd h h1
end Go.Proofs.Ytblgdccoeecodaa
namespace Go.Proofs.Ytblgdccoeecodaa
set_option linter.unusedSimpArgs false
set_option linter.unusedVariables false
open Go.RowKit
def srcTo (c:Nat -> Bool) (p:PhiD) (j:Nat):List Int:=(((p.src.zip p.vals).take j).filter fun q=>c q.1.toNat).map fun q=>((numN c q.1.toNat:Nat):Int)
def valTo (c:Nat -> Bool) (p:PhiD) (j:Nat):List Int:=(((p.src.zip p.vals).take j).filter fun q=>c q.1.toNat).map (·.2)
theorem to_step {c:Nat -> Bool} {p:PhiD} {j:Nat} {a v:Int} (ha:p.src[j]? = some a) (hv:p.vals[j]? = some v) :
  srcTo c p (j+1)=(if c a.toNat then srcTo c p j ++ [((numN c a.toNat:Nat):Int)] else srcTo c p j)/\valTo c p (j+1)=(if c a.toNat then valTo c p j ++ [v] else valTo c p j):=by
 have hz:(p.src.zip p.vals)[j]? = some (a,v):=by rw [List.getElem?_zip_eq_some];exact ⟨ha,hv⟩
 unfold srcTo valTo
 rw [List.take_add_one,hz,Option.toList_some,List.filter_append]
 cases hc:c a.toNat <;> simp [hc]
theorem to_all {c:Nat -> Bool} {p:PhiD} (h:p.src.length=p.vals.length):srcTo c p p.src.length=(pruneP c p).src/\valTo c p p.src.length=(pruneP c p).vals:=by
 unfold srcTo valTo pruneP
 rw [List.take_of_length_le (by rw [List.length_zip];omega)]
 exact ⟨rfl,rfl⟩
def numsI (c:Nat -> Bool) (nb i:Nat):List Int:=(List.range nb).map fun d=>if (decide (d < i) && c d)=true then ((numN c d:Nat):Int) else 0
theorem numsI_len (c:Nat -> Bool) (nb i:Nat):(numsI c nb i).length=nb:=by simp [numsI]
theorem numsI_zero (c:Nat -> Bool) (nb:Nat):numsI c nb 0=List.replicate nb 0:=by
 apply List.ext_getElem?
 intro d
 by_cases h:d < nb <;> simp [numsI,h]
theorem numsI_get {c:Nat -> Bool} {nb i d:Nat} (hd:d < nb):(numsI c nb i)[d]? = some (if (decide (d < i) && c d)=true then ((numN c d:Nat):Int) else 0):=by
 unfold numsI
 rw [List.getElem?_map,List.getElem?_range hd];rfl
theorem numsI_no {c:Nat -> Bool} {nb i:Nat} (h:c i=false):numsI c nb (i+1)=numsI c nb i:=by
 apply List.ext_getElem?
 intro d
 by_cases hd:d < nb
 ·rw [numsI_get hd,numsI_get hd]
  by_cases e:d=i
  ·subst e;simp [h]
  ·have:decide (d < i+1)=decide (d < i):=by by_cases h9:d < i <;> simp [h9] <;> omega
   rw [this]
 ·rw [List.getElem?_eq_none (by rw [numsI_len];omega),List.getElem?_eq_none (by rw [numsI_len];omega)]
theorem numsI_yes {c:Nat -> Bool} {nb i:Nat} (h:c i=true) (hi:i < nb):(numsI c nb i).set i ((numN c i:Nat):Int)=numsI c nb (i+1):=by
 apply List.ext_getElem?
 intro d
 rw [List.getElem?_set,numsI_len]
 by_cases e:i=d
 ·subst e
  rw [if_pos rfl,if_pos hi,numsI_get hi]
  simp [h]
 ·rw [if_neg e]
  by_cases hd:d < nb
  ·rw [numsI_get hd,numsI_get hd]
   have:decide (d < i+1)=decide (d < i):=by by_cases h9:d < i <;> simp [h9] <;> omega
   rw [this]
  ·rw [List.getElem?_eq_none (by rw [numsI_len];omega),List.getElem?_eq_none (by rw [numsI_len];omega)]
theorem numsI_at {c:Nat -> Bool} {nb d:Nat} (hd:d < nb) (hc:c d=true):(numsI c nb nb)[d]? = some ((numN c d:Nat):Int):=by
 rw [numsI_get hd];simp [hd,hc]
theorem place_come {f:FuncD} {O:List Nat} (h:IsOrder f O) {d:Nat} (hd:d < f.blocks.length):∃ z,(placeI f.blocks.length O O.length)[d]? = some z/\decide (0 <= z)=comeF f d:=by
 obtain ⟨-,hw, -, -, -⟩:=h.facts
 refine ⟨_,by unfold placeI;rw [List.getElem?_map,List.getElem?_range hd];rfl, ?_⟩
 show decide (0 <= (if d ∈ O.take O.length then ((O.idxOf d:Nat):Int) else -1))=comeF f d
 rw [List.take_length]
 by_cases hm:d ∈ O
 ·rw [if_pos hm,come_iff.2 ((hw d).1 hm)]
  simp
 ·rw [if_neg hm]
  have:comeF f d=false:=by
   cases hc:comeF f d with
   | false=>rfl
   | true=>exact absurd ((hw d).2 (come_iff.1 hc)) hm
  rw [this];rfl
theorem come_to {f:FuncD} {d:Nat} {x:BlockD} (hf:formB f=true) (hx:f.blocks[d]? = some x) (hc:comeF f d=true) {t:Int} (ht:t ∈ x.term.to):comeF f t.toNat=true/\1 <= t/\t < f.blocks.length:=by
 have h1:=formB_to hf hx t ht
 refine ⟨come_iff.2 (.step (come_iff.1 hc) (by rw [toB_at hx,List.mem_map];exact ⟨t,ht,rfl⟩) (by omega)),h1.1,h1.2⟩
theorem kept_mem {c:Nat -> Bool} {f:FuncD} {j:Nat} {y:BlockD} (h:(keptB c f f.blocks.length)[j]? = some y):∃ d,f.blocks[d]? = some y/\c d=true:=by
 have hj:=(List.getElem?_eq_some_iff.1 h).1
 rw [kept_len (Nat.le_refl _)] at hj
 obtain ⟨d,x, -,h2, -,h4,h5⟩:=kept_from (Nat.le_refl _) hj
 rw [h] at h5
 cases h5
 exact ⟨d,h4,h2⟩
theorem phi_src {f:FuncD} {d:Nat} {x:BlockD} (hf:formB f=true) (hx:f.blocks[d]? = some x) {p:PhiD} (hp:p ∈ x.phis):∀ q ∈ p.src,0 <= q/\q < f.blocks.length:=fun q hq=>by
 unfold formB at hf
 simp only [Bool.and_eq_true,List.all_eq_true] at hf
 have h8:=(blockOk_parts.1 (hf.2 (x,d) (by rw [List.mem_zipIdx_iff_getElem?];exact hx))).2.1 p hp
 unfold phiOk at h8
 simp only [Bool.and_eq_true,List.all_eq_true] at h8
 have h9:=h8.1.2 q hq
 unfold numB at h9
 simp at h9
 omega
end Go.Proofs.Ytblgdccoeecodaa
