/- Part 45. -/
import Derived.Test.YtgmhnepmkaonaaaGreatQA44
namespace Go.Proofs.YtgmhnepmkaonaaaGreat
set_option linter.unusedSimpArgs false
set_option linter.unusedVariables false
open Go.RowKit
structure SwI (f:FuncD) (h:Nat) (S:List Bool):Prop where
 len:S.length=f.blocks.length
 hd:S[h]? = some true
 lat:∀ p ∈ latN f h,S[p]? = some true
 sound:∀ b:Nat,S[b]? = some true -> InL f h b
theorem setT {S:List Bool} {b:Nat} (hb:b < S.length) (x:Nat):(S.set b true)[x]? = some true ↔ (x=b \/ S[x]? = some true):=by
 rw [List.getElem?_set]
 by_cases e:b=x
 ·subst e;simp [hb]
 ·rw [if_neg e]
  exact ⟨.inr,fun k=>k.resolve_left (fun e2=>e e2.symm)⟩
def latS (f:FuncD) (L:List Nat) (k:Nat):List Bool:=(L.take k).foldl (fun S p=>S.set p true) (List.replicate f.blocks.length false)
theorem latS_zero (f:FuncD) (L:List Nat):latS f L 0=List.replicate f.blocks.length false:=rfl
theorem latS_next {f:FuncD} {L:List Nat} {k p:Nat} (h:L[k]? = some p):latS f L (k+1)=(latS f L k).set p true:=by
 unfold latS
 rw [take_snoc _ _ _ h,List.foldl_append];rfl
theorem latS_len (f:FuncD) (L:List Nat) (k:Nat):(latS f L k).length=f.blocks.length:=by
 unfold latS
 have:∀ (M:List Nat) (S:List Bool),(M.foldl (fun S p=>S.set p true) S).length=S.length:=fun M=>by
  induction M with
  | nil=>intro S;rfl
  | cons p M ih=>intro S;rw [List.foldl_cons,ih,List.length_set]
 rw [this,List.length_replicate]
theorem foldl_setT {L:List Nat}:∀ {S:List Bool},(∀ p ∈ L,p < S.length) -> ∀ x:Nat,(L.foldl (fun S p=>S.set p true) S)[x]? = some true ↔ (x ∈ L \/ S[x]? = some true):=by
 induction L with
 | nil=>intro S _ x;simp
 | cons p L ih =>
  intro S hS x
  rw [List.foldl_cons,ih (fun q hq=>by rw [List.length_set];exact hS q (List.mem_cons_of_mem _ hq)),setT (hS p (by simp)),List.mem_cons]
  constructor
  ·rintro (k | k | k)
   ·exact .inl (.inr k)
   ·exact .inl (.inl k)
   ·exact .inr k
  ·rintro ((k | k) | k)
   ·exact .inr (.inl k)
   ·exact .inl k
   ·exact .inr (.inr k)
theorem SwI.start {f:FuncD} {h:Nat} (hh:h < f.blocks.length):SwI f h ((latS f (latN f h) (latN f h).length).set h true):=by
 have hin:∀ p ∈ latN f h,p < (List.replicate f.blocks.length false).length:=fun p hp=>by rw [List.length_replicate];exact toB_lt (mem_latN.1 hp).1
 have hs:∀ x:Nat,((latS f (latN f h) (latN f h).length).set h true)[x]? = some true ↔ (x=h \/ x ∈ latN f h):=fun x=>by
  rw [setT (by rw [latS_len];exact hh)]
  unfold latS
  rw [List.take_length,foldl_setT hin]
  constructor
  ·rintro (k | k | k)
   ·exact .inl k
   ·exact .inr k
   ·rw [List.getElem?_replicate] at k
    split at k <;> simp at k
  ·rintro (k | k)
   ·exact .inl k
   ·exact .inr (.inl k)
 refine ⟨by rw [List.length_set,latS_len],(hs h).2 (.inl rfl),fun p hp=>(hs p).2 (.inr hp),fun b hb => ?_⟩
 rcases (hs b).1 hb with rfl | k
 ·exact .head
 ·exact .latch k
theorem SwI.put {f:FuncD} {h b p:Nat} {S:List Bool} (w:SwI f h S) (hb:S[b]? = some true) (hne:b ≠ h) (ht:b ∈ toB f p):SwI f h (S.set p true):=by
 have hp:p < S.length:=by rw [w.len];exact toB_lt ht
 refine ⟨by rw [List.length_set];exact w.len,(setT hp h).2 (.inr w.hd),fun q hq=>(setT hp q).2 (.inr (w.lat q hq)),fun x hx => ?_⟩
 rcases (setT hp x).1 hx with rfl | k
 ·exact .step (w.sound b hb) hne ht
 ·exact w.sound x k
def SwC (f:FuncD) (h:Nat) (S:List Bool) (b:Nat):Prop := ∀ x p:Nat,x < b -> S[x]? = some true -> x ≠ h -> x ∈ toB f p -> S[p]? = some true
theorem SwC.zero (f:FuncD) (h:Nat) (S:List Bool):SwC f h S 0:=fun x p hx=>absurd hx (by omega)
theorem SwC.next {f:FuncD} {h b:Nat} {S:List Bool} (c:SwC f h S b) (hb:¬ (S[b]? = some true/\b ≠ h) \/ ∀ p ∈ predN f f.blocks.length 0 b,S[p]? = some true):SwC f h S (b+1):=fun x p hx hs hne ht=>by
 by_cases e:x=b
 ·subst e
  rcases hb with k | k
  ·exact absurd ⟨hs,hne⟩ k
  ·refine k p ?_
   rw [predN_zero,List.mem_filter,List.mem_range]
   exact ⟨toB_lt ht,by simpa using ht⟩
 ·exact c x p (by omega) hs hne ht
theorem SwI.work {f:FuncD} {h:Nat} {S:List Bool} (w:SwI f h S) (c:SwC f h S f.blocks.length):WorkI f h S [] :=
 ⟨w.len,w.hd,w.sound,(fun b hb=>by cases hb),fun b p hb hne ht=>.inl (c b p (by rw [<-w.len];exact (List.getElem?_eq_some_iff.1 hb).1) hb hne ht),fun p hp=>.inl (w.lat p hp)⟩
section
open Classical
noncomputable def bodyK (f:FuncD) (h k:Nat):List Nat:=(List.range k).filter fun b=>decide (InL f h b)
noncomputable def exitK (f:FuncD) (h k:Nat):List Nat:=(List.range k).filter fun t=>decide (¬ InL f h t /\ ∃ b,InL f h b/\t ∈ toB f b)
theorem bodyK_all (f:FuncD) (h:Nat):bodyK f h f.blocks.length=bodyN f h:=rfl
theorem exitK_all (f:FuncD) (h:Nat):exitK f h f.blocks.length=exitN f h:=rfl
theorem bodyK_yes {f:FuncD} {h k:Nat} (hi:InL f h k):bodyK f h (k+1)=bodyK f h k ++ [k]:=by
 unfold bodyK
 rw [List.range_succ,List.filter_append]
 congr 1
 simp [hi]
theorem bodyK_no {f:FuncD} {h k:Nat} (hi:¬ InL f h k):bodyK f h (k+1)=bodyK f h k:=by
 unfold bodyK
 rw [List.range_succ,List.filter_append]
 simp [hi]
theorem exitK_in {f:FuncD} {h k:Nat} (hi:InL f h k):exitK f h (k+1)=exitK f h k:=by
 unfold exitK
 rw [List.range_succ,List.filter_append]
 simp [hi]
theorem exitK_yes {f:FuncD} {h k:Nat} (hi:¬ InL f h k) (he:∃ b,InL f h b/\k ∈ toB f b):exitK f h (k+1)=exitK f h k ++ [k]:=by
 unfold exitK
 rw [List.range_succ,List.filter_append]
 congr 1
 simp [hi,he]
theorem exitK_no {f:FuncD} {h k:Nat} (he:¬ ∃ b,InL f h b/\k ∈ toB f b):exitK f h (k+1)=exitK f h k:=by
 unfold exitK
 rw [List.range_succ,List.filter_append]
 simp [he]
theorem bodyK_len (f:FuncD) (h k:Nat):(bodyK f h k).length <= k:=by
 unfold bodyK
 exact Nat.le_trans (List.length_filter_le _ _) (by rw [List.length_range];exact Nat.le_refl _)
theorem exitK_len (f:FuncD) (h k:Nat):(exitK f h k).length <= k:=by
 unfold exitK
 exact Nat.le_trans (List.length_filter_le _ _) (by rw [List.length_range];exact Nat.le_refl _)
end
theorem exit_any {f:FuncD} {h k:Nat} {S:List Bool} (hh:h < f.blocks.length) (w:WorkI f h S []):((predN f f.blocks.length 0 k).any fun p=>S.getD p false)=true ↔ ∃ b,InL f h b/\k ∈ toB f b:=by
 rw [List.any_eq_true]
 have hs:∀ p:Nat,S.getD p false=true ↔ InL f h p:=fun p=>by
  rw [<-w.done hh p,List.getD_eq_getElem?_getD]
  cases S[p]? with
  | none=>simp
  | some c=>simp
 constructor
 ·rintro ⟨p,hp,h1⟩
  rw [predN_zero,List.mem_filter] at hp
  exact ⟨p,(hs p).1 h1,by simpa using hp.2⟩
 ·rintro ⟨p,h1,h2⟩
  refine ⟨p, ?_,(hs p).2 h1⟩
  rw [predN_zero,List.mem_filter,List.mem_range]
  exact ⟨toB_lt h2,by simpa using h2⟩
end Go.Proofs.YtgmhnepmkaonaaaGreat
