/- What the claim needs,part 46. -/
import Derived.Test.YtgmhnepmkaonaaaGreatPB45
import Derived.Test.YtgmhnepmkaonaaaGreatPB44
namespace Go.Proofs.YtgmhnepmkaonaaaGreat
set_option linter.unusedSimpArgs false
set_option linter.unusedVariables false
open Go.RowKit
inductive Tr (f:FuncD):Nat -> Nat -> Prop
 | one {a b:Nat} (h:b ∈ toB f a):Tr f a b
 | cons {a b c:Nat} (h:c ∈ toB f a) (k:Tr f c b):Tr f a b
theorem Tr.trans {f:FuncD} {a b c:Nat} (h:Tr f a b) (k:Tr f b c):Tr f a c:=by
 induction h with
 | one h=>exact .cons h k
 | cons h _ ih=>exact .cons h (ih k)
theorem Tr.last {f:FuncD} {a b:Nat} (h:Tr f a b):∃ u,(u=a \/ Tr f a u)/\b ∈ toB f u:=by
 induction h with
 | one h=>exact ⟨_,.inl rfl,h⟩
 | cons h k ih =>
  obtain ⟨u,hu,hb⟩:=ih
  refine ⟨u,.inr ?_,hb⟩
  rcases hu with rfl | hu
  ·exact .one h
  ·exact .cons h hu
theorem run_back {f:FuncD} {fuel:Nat} (hc:checkF f=0) (hF:FaultR f 0 0):∀ {n:Nat} {src:Int} {a:Nat} {s s' : RunS} {o:OverD},In f src a -> GoodS f fuel s -> runN f fuel n src a s=some (o,s') ->
  (∀ b,vis s b < vis s' b -> b=a \/ Tr f a b) /\ ∀ b,vis s b+1 < vis s' b -> Tr f b b
 | 0,_,_,_,_,_,_,_,h=>by simp [runN] at h
 | n+1,src,a,s,s',o,hin,hg,h=>by
  have hal:=hin.lt hc
  obtain ⟨x,hx⟩ : ∃ x,f.blocks[a]? = some x:=⟨_,List.getElem?_eq_getElem hal⟩
  obtain ⟨b1,b2,b3⟩:=blockR_count f fuel src a s
  have hlen:a < s.visits.length:=by rw [hg.vis];exact hal
  have hv:=vis_modify b1 hlen
  unfold runN at h
  cases hb:blockR f fuel src a s with
  | over o1 s1 =>
   rw [hb] at h hv
   injection h with e
   injection e with e1 e2
   subst e2
   simp only [Res.st] at hv
   refine ⟨fun b hlt => ?_,fun b hlt => ?_⟩
   ·have h1:=hv b
    by_cases e:b=a
    ·exact .inl e
    ·rw [if_neg e] at h1;omega
   ·have h1:=hv b
    split at h1 <;> omega
  | go to s1 =>
   have hgo:=block_go hc hg hx (hin.phis hc hF hx) hb
   obtain ⟨t,rfl,ht⟩:=hgo.to
   rw [hb] at h hv
   simp only [Res.st] at hv
   obtain ⟨i1,i2⟩:=run_back hc hF (.inr ⟨a,rfl,hal,ht⟩) hgo.good (by simpa using h)
   refine ⟨fun b hlt => ?_,fun b hlt => ?_⟩
   ·have h1:=hv b
    by_cases e:b=a
    ·exact .inl e
    ·rw [if_neg e] at h1
     rcases i1 b (by omega) with rfl | k
     ·exact .inr (.one ht)
     ·exact .inr (.cons ht k)
   ·have h1:=hv b
    by_cases e:b=a
    ·rw [if_pos e] at h1
     subst e
     rcases i1 b (by omega) with e2 | k
     ·exact .one (by rw [<-e2] at ht;exact ht)
     ·exact .cons ht k
    ·rw [if_neg e] at h1
     exact i2 b (by omega)
theorem least_of {C:Nat -> Prop} (pl:Nat -> Nat):∀ (n x:Nat),C x -> pl x=n -> ∃ y,C y /\ ∀ z,C z -> pl y <= pl z:=by
 intro n
 induction n using Nat.strongRecOn with
 | ind n ih =>
  intro x hx e
  by_cases h:∃ z,C z/\pl z < pl x
  ·obtain ⟨z,hz,hl⟩:=h
   exact ih (pl z) (by omega) z hz rfl
  ·exact ⟨x,hx,fun z hz=>Classical.byContradiction fun hn=>h ⟨z,hz,by omega⟩⟩
theorem loop_of_cycle {f:FuncD} {pl:Nat -> Nat} (hodd:∀ b p,b ∈ toB f p -> pl b <= pl p -> OverP f b p) {b:Nat} (hb:Tr f b b):∃ h,latN f h ≠ []/\InL f h b /\ ∃ u,h ∈ toB f u:=by
 obtain ⟨h,⟨c1,c2⟩,hm⟩:=least_of (C:=fun x=>Tr f b x/\Tr f x b) pl (pl b) b ⟨hb,hb⟩ rfl
 have latch:∀ u,Tr f b u -> Tr f u b -> h ∈ toB f u -> u ∈ latN f h:=fun u h1 h2 h3=>mem_latN.2 ⟨h3,hodd h u h3 (hm u ⟨h1,h2⟩)⟩
 have body:∀ {x y:Nat},Tr f x y -> y=h -> Tr f b x -> Tr f x b -> InL f h x:=fun {x y} ht=>by
  induction ht with
  | one hxy=>intro e q1 q2;subst e;exact .latch (latch _ q1 q2 hxy)
  | @cons a y c hac k ih =>
   intro e q1 q2
   by_cases ec:c=h
   ·subst ec;exact .latch (latch _ q1 q2 hac)
   ·exact .step (ih e (q1.trans (.one hac)) (by rw [e] at k;exact k.trans c2)) ec hac
 obtain ⟨u,hu,he⟩:=(c2.trans c1).last
 have hul:u ∈ latN f h:=by
  rcases hu with rfl | hu
  ·exact latch u c1 c2 he
  ·exact latch u (c1.trans hu) ((Tr.one he).trans c2) he
 exact ⟨h,List.ne_nil_of_mem hul,body c1 rfl hb hb,u,he⟩
theorem depth_pos {f:FuncD} {h b:Nat} (hl:h < f.blocks.length) (hn:latN f h ≠ []) (hb:InL f h b):0 < cntK f (loopsF f).length b:=by
 have hm:h ∈ headsN f:=mem_headsN.2 ⟨hl,hn⟩
 obtain ⟨i,hi⟩:=List.mem_iff_getElem?.1 hm
 have hil:=(List.getElem?_eq_some_iff.1 hi).1
 obtain ⟨l,hlo⟩ : ∃ l,(loopsF f)[i]? = some l:=⟨_,List.getElem?_eq_getElem (by rw [loopsF_len];exact hil)⟩
 obtain ⟨e,hh,_⟩:=loopsF_at hlo
 have ht2:l.head=h:=by rw [hi] at hh;injection hh with h;exact h.symm
 unfold cntK
 rw [List.take_length,List.countP_pos_iff]
 refine ⟨l,List.mem_of_getElem? hlo, ?_⟩
 have eb:l.blocks=bodyN f l.head:=by rw [e];rfl
 rw [eb,ht2]
 simpa using (mem_bodyN hl).2 hb
theorem loops_end {f:FuncD} {i:InputD} {fuel:Nat} (hfu:fuel < 2000) {t:TraceD} (h:RunP f i fuel t) (h6:t.how ≠ 6) {pl:Nat -> Nat} (hodd:∀ b p,b ∈ toB f p -> pl b <= pl p -> OverP f b p) :
  t.visits.length=f.blocks.length /\ ∀ b,b < t.visits.length -> 1 < t.visits.getD b 0 -> (depthsF f).getD b 0 ≠ 0:=by
 rcases h with ⟨rfl, -⟩ | ⟨hc,hF, -,o,s,hr,rfl⟩
 ·exact absurd rfl h6
 ·obtain ⟨n,hr⟩:=hr
  have hz:∀ b,vis (startS f i) b=0:=fun b=>by
   show (List.replicate f.blocks.length 0).getD b 0=0
   rw [List.getD_eq_getElem?_getD,List.getElem?_replicate]
   split <;> rfl
  have hC:=run_visits hc hF (.inl ⟨rfl,rfl⟩) (GoodS.start hc) hr
  have hB:=run_back hc hF (.inl ⟨rfl,rfl⟩) (GoodS.start hc) hr
  have hl:s.visits.length=f.blocks.length:=by
   rw [hC.len];show (List.replicate f.blocks.length 0).length=_;rw [List.length_replicate]
  have hl2:(traceT o s).visits.length=f.blocks.length:=by
   show (s.visits.map fun n:Nat=>(n:Int)).length=_
   rw [List.length_map,hl]
  refine ⟨hl2,fun b hb hlt => ?_⟩
  rw [hl2] at hb
  have hv:(traceT o s).visits.getD b 0=((vis s b:Nat):Int):=by
   show (s.visits.map fun n:Nat=>(n:Int)).getD b 0=((s.visits.getD b 0:Nat):Int)
   rw [List.getD_eq_getElem?_getD,List.getD_eq_getElem?_getD,List.getElem?_map]
   cases s.visits[b]? <;> rfl
  rw [hv] at hlt
  obtain ⟨hd,q1,q2,u,q3⟩:=loop_of_cycle hodd (hB.2 b (by rw [hz b];omega))
  have hp:=depth_pos (to_lt (check_fine hc).1 q3).1 q1 q2
  unfold depthsF depK
  rw [List.getD_eq_getElem?_getD,List.getElem?_map,List.getElem?_range hb]
  show ((cntK f (loopsF f).length b:Nat):Int) ≠ 0
  omega
end Go.Proofs.YtgmhnepmkaonaaaGreat
namespace Go.Proofs.YtgmhnepmkaonaaaGreat
set_option linter.unusedSimpArgs false
set_option linter.unusedVariables false
open Go.RowKit
section
open Classical
def OddE (f:FuncD) (O:List Nat) (b p:Nat):Prop:=O.idxOf b <= O.idxOf p /\ ¬ OverP f b p
noncomputable def oddB (f:FuncD) (O:List Nat) (b:Nat):Bool:=(predN f f.blocks.length 0 b).any fun p=>decide (OddE f O b p)
noncomputable def oddJ (f:FuncD) (O:List Nat) (j:Nat):List Nat:=(List.range j).filter (oddB f O)
noncomputable def oddF (f:FuncD) (O:List Nat):List Nat:=oddJ f O f.blocks.length
theorem oddJ_yes {f:FuncD} {O:List Nat} {j:Nat} (h:oddB f O j=true):oddJ f O (j+1)=oddJ f O j ++ [j]:=by
 unfold oddJ
 rw [List.range_succ,List.filter_append]
 congr 1
 simp [h]
theorem oddJ_no {f:FuncD} {O:List Nat} {j:Nat} (h:oddB f O j=false):oddJ f O (j+1)=oddJ f O j:=by
 unfold oddJ
 rw [List.range_succ,List.filter_append]
 simp [h]
theorem oddJ_len (f:FuncD) (O:List Nat) (j:Nat):(oddJ f O j).length <= j:=by
 unfold oddJ
 exact Nat.le_trans (List.length_filter_le _ _) (by rw [List.length_range];exact Nat.le_refl _)
theorem odd_none {f:FuncD} {O:List Nat} (hf:formB f=true) (h:oddF f O=[]):∀ b p,b ∈ toB f p -> O.idxOf b <= O.idxOf p -> OverP f b p:=fun b p hb hl=>by
 refine Classical.byContradiction fun hn => ?_
 obtain ⟨h1, -,h3⟩:=to_lt hf hb
 have h4:=List.filter_eq_nil_iff.1 h b (List.mem_range.2 h1)
 refine h4 ?_
 unfold oddB
 rw [List.any_eq_true]
 refine ⟨p, ?_,by simpa using ⟨hl,hn⟩⟩
 rw [predN_zero,List.mem_filter,List.mem_range]
 exact ⟨h3,by simpa using hb⟩
end
theorem place_in {f:FuncD} {O:List Nat} (hO:IsOrder f O) (hall:∀ d,d < f.blocks.length -> Way (toB f) (-1) d) {b:Nat} (hb:b < f.blocks.length):(placeI f.blocks.length O O.length).getD b 0=((O.idxOf b:Nat):Int):=by
 rw [List.getD_eq_getElem?_getD,placeI_in hb ((hO.facts.2.1 b).2 (hall b hb))];rfl
end Go.Proofs.YtgmhnepmkaonaaaGreat
