/- What the claim needs,part 21. -/
import Derived.Test.YtgmhnepmkaonaaaGreatPB17
import Derived.Test.YtgmhnepmkaonaaaGreatPB20
import Derived.Test.YtgmhnepmkaonaaaGreatPB6
import Derived.Test.YtgmhnepmkaonaaaGreatPB16
import Derived.Test.YtgmhnepmkaonaaaGreatPB19
namespace Go.Proofs.YtgmhnepmkaonaaaGreat
set_option linter.unusedSimpArgs false
set_option linter.unusedVariables false
open Go.RowKit
structure Holds (bs:List Nat) (base:Nat) (W:World) (S:Foot) (K:World -> Prop):Prop where
 now:K W
 keep:∀ W1 W2,K W1 -> (∀ k,S k -> W2.heap[k]? = W1.heap[k]?) -> K W2
 lt:∀ k,S k -> k < W.heap.size
 base:∀ k,S k -> base <= k
 free:∀ k,S k -> k ∉ bs
theorem Holds.off {bs:List Nat} {base:Nat} {W W' : World} {S D:Foot} {K:World -> Prop} (h:Holds bs base W S K) (ho:Off D W W') (hn:S.off D):Holds bs base W' S K :=
 ⟨h.keep _ _ h.now fun k hk=>ho.block k (h.lt k hk) (hn k hk),h.keep,fun k hk=>Nat.lt_of_lt_of_le (h.lt k hk) ho.size,h.base,h.free⟩
theorem Holds.later {bs:List Nat} {base:Nat} {W W' : World} {S:Foot} {K:World -> Prop} (h:Holds bs base W S K) (hb:Below W.heap.size W W'):Holds bs base W' S K :=
 h.off (.of_below hb Foot.none) fun k _ hk=>hk
theorem Holds.alloc {bs:List Nat} {base:Nat} {W:World} {S:Foot} {K:World -> Prop} (h:Holds bs base W S K) (o:Obj):Holds bs base (W.alloc o) S K:=h.later ((Below.refl _ _).alloc (Nat.le_refl _) o)
theorem Holds.other {bs:List Nat} {base:Nat} {W:World} {S:Foot} {K:World -> Prop} (h:Holds bs base W S K) {p:Addr} (v:Value) (hp:p.block ∈ bs):Holds bs base (W.setCell p v) S K :=
 h.off (Off.set W p v) fun k hk he=>h.free k hk (by cases he;exact hp)
theorem Holds.more {bs:List Nat} {base:Nat} {W:World} {S:Foot} {K:World -> Prop} (h:Holds bs base W S K) {b:Nat} (hb:W.heap.size <= b):Holds (b :: bs) base W S K :=
 ⟨h.now,h.keep,h.lt,h.base,fun k hk hm=>by
  rcases List.mem_cons.1 hm with rfl | hm
  ·have:=h.lt _ hk;omega
  ·exact h.free k hk hm⟩
theorem Holds.from {bs:List Nat} {base base' : Nat} {W:World} {S:Foot} {K:World -> Prop} (h:Holds bs base W S K) (hb:base' <= base):Holds bs base' W S K:=⟨h.now,h.keep,h.lt,fun k hk=>Nat.le_trans hb (h.base k hk),h.free⟩
theorem holds_ints {base:Nat} {W:World} {S:Foot} {v:Value} {xs:List Int} (h:OInts W S v xs) (hf:Fresh base S):Holds [] base W S (fun W=>OInts W S v xs) :=
 ⟨h,fun _ _ h hk=>h.keep hk,h.lt,hf,fun _ _ hm=>by cases hm⟩
theorem holds_nice {α : Type} {R:World -> Foot -> List Value -> α -> Prop} (hR:Nice R) {base:Nat} {W:World} {S:Foot} {cs:List Value} {x : α} (h:R W S cs x) (hf:Fresh base S):Holds [] base W S (fun W=>R W S cs x) :=
 ⟨h,fun _ _ h hk=>hR.keep h hk,hR.lt h,hf,fun _ _ hm=>by cases hm⟩
theorem holds_sl {α : Type} {R:World -> Foot -> List Value -> α -> Prop} (hR:Nice R) {base:Nat} {e:TypeId} {size:Nat} {W:World} {S:Foot} {v:Value} {xs:List α} (h:OSl R e size W S v xs) (hf:Fresh base S):Holds [] base W S (fun W=>OSl R e size W S v xs) :=
 ⟨h,fun _ _ h hk=>h.keep hR hk,h.lt,hf,fun _ _ hm=>by cases hm⟩
theorem row_box {W:World} {B n size:Nat} {ds:List Value} (h:Box W B ds.toArray) (hs:ds.length=n * size) (hn:n <= 17592186044416):Row W (.slice (some ⟨B,0,none⟩) n n) n size ds:=by
 have:=Row.of_box (n:=n) (size:=size) h (by simpa using hs) hn
 simpa using this
theorem osnoc_fin {α : Type} {R:World -> Foot -> List Value -> α -> Prop} (hR:Nice R) {e:TypeId} {size:Nat} {w w' : World} {bs:List Nat} {base:Nat} {S Fn G' : Foot} {v v' : Value} {xs:List α} {y : α} {cs ds:List Value} {G:Foot} {F:Nat -> Foot} {n:Nat} (hn:xs.length=n)
  (H:Holds bs base w S (fun W=>OSl R e size W S v xs)) (hp:OParts R e size w S v xs cs G F) (hel:R w Fn ds y) (hF:Fn.off S) (hFb:Fresh base Fn) (hbs:∀ b ∈ bs,b < base) (hbase:base <= w.heap.size)
  (ho:Off G w w') (hrow:ORow w' G' e size v' (xs.length+1) (cs ++ ds)) (hG:∀ k,G' k -> G k \/ w.heap.size <= k) :
  ∃ S',Holds bs base w' S' (fun W=>OSl R e size W S' v' (xs ++ [y]))/\(∀ k,S' k -> S k \/ Fn k \/ w.heap.size <= k)/\Off S w w' /\ ∃ g cap,v' = .slice (some ⟨g,0,none⟩) (n+1) cap:=by
 have h1:=hp.snoc hR hel hF ho hrow hG
 have h2:∀ k,(S k \/ Fn k \/ G' k) -> S k \/ Fn k \/ w.heap.size <= k:=fun k hk=>by
  rcases hk with hk | hk | hk
  ·exact .inl hk
  ·exact .inr (.inl hk)
  ·rcases hG k hk with hk | hk
   ·exact .inl (hp.inG k hk)
   ·exact .inr (.inr hk)
 refine ⟨_,⟨⟨_,_,_,h1⟩,fun _ _ h hk=>h.keep hR hk,h1.lt,fun k hk => ?_,fun k hk hm => ?_⟩,h2,ho.mono fun k _ hk=>hp.inG k hk, ?_⟩
 ·rcases h2 k hk with hk | hk | hk
  ·exact H.base k hk
  ·exact hFb k hk
  ·omega
 ·rcases h2 k hk with hk | hk | hk
  ·exact H.free k hk hm
  ·have:=hFb k hk;have:=hbs k hm;omega
  ·have:=hbs k hm;omega
 ·obtain ⟨g,cap,hv, -⟩:=hrow.addr (by omega)
  exact ⟨g,cap,by rw [<-hn];exact hv⟩
theorem wpList_osnoc {α : Type} {R:World -> Foot -> List Value -> α -> Prop} (hR:Nice R) {P:Program} {w:World} {ops:Array Oper} {rest:List Oper} {o:Oper} {a:Act} {Q:Exit -> Act -> World -> Prop} (hgd:o.guard=none) (s x:Operand) (t e:TypeId)
  (ho:o.op = .call { callee:=.builtin .append,args:=#[s,x],argTypes:=#[t,t] }) {z:Value} {size bytes:Nat} (he:Elem P t e z size bytes)
  {v:Value} {B:Nat} {ds:List Value} (hs:a.eval s=v) (hx:a.eval x = .slice (some ⟨B,0,none⟩) 1 1) {bs:List Nat} {base:Nat} {S Fn:Foot} {xs:List α} {y : α} {n:Nat} (hn:xs.length=n)
  (H:Holds bs base w S (fun W=>OSl R e size W S v xs)) (hB:Box w B ds.toArray) (hds:ds.length=size) (hel:R w Fn ds y) (hF:Fn.off S) (hFb:Fresh base Fn) (hbs:∀ b ∈ bs,b < base) (hbase:base <= w.heap.size)
  (h1:∀ u ∈ ds,u.oneCell' = true) (hlen:n+1 <= 17592186044416) (hbytes:(n+1) * bytes <= 140737488355328)
  (hK:∀ v' w' S',Holds bs base w' S' (fun W=>OSl R e size W S' v' (xs ++ [y])) -> (∀ k,S' k -> S k \/ Fn k \/ w.heap.size <= k) -> Off S w w' -> (∃ g cap,v' = .slice (some ⟨g,0,none⟩) (n+1) cap) -> wpList P ops Q rest (a.put o.dst v') w'):wpList P ops Q (o :: rest) a w:=by
 obtain ⟨cs,G,F,hp⟩:=H.now
 refine wpList_oapp hgd s x t e ho he hs hx hp.row (row_box (n:=1) hB (by omega) (by omega)) h1 (by omega) (by rw [hn];exact hbytes) fun v' w' G' r1 r2 r3 => ?_
 obtain ⟨S',k1,k2,k3,k4⟩:=osnoc_fin hR hn H hp hel hF hFb hbs hbase r3 r1 r2
 exact hK v' w' S' k1 k2 k3 k4
theorem exec_osnoc {α : Type} {R:World -> Foot -> List Value -> α -> Prop} (hR:Nice R) {P:Program} {w:World} {o:Oper} {a:Act} (s x:Operand) (t e:TypeId)
  (ho:o.op = .call { callee:=.builtin .append,args:=#[s,x],argTypes:=#[t,t] }) {z:Value} {size bytes:Nat} (he:Elem P t e z size bytes)
  {v:Value} {B:Nat} {ds:List Value} (hs:a.eval s=v) (hx:a.eval x = .slice (some ⟨B,0,none⟩) 1 1) {bs:List Nat} {base:Nat} {S Fn:Foot} {xs:List α} {y : α} {n:Nat} (hn:xs.length=n)
  (H:Holds bs base w S (fun W=>OSl R e size W S v xs)) (hB:Box w B ds.toArray) (hds:ds.length=size) (hel:R w Fn ds y) (hF:Fn.off S) (hFb:Fresh base Fn) (hbs:∀ b ∈ bs,b < base) (hbase:base <= w.heap.size)
  (h1:∀ u ∈ ds,u.oneCell' = true) (hlen:n+1 <= 17592186044416) (hbytes:(n+1) * bytes <= 140737488355328) :
  ∃ v' w' S',(execOp a.eval o).run P w = .ok (.value v') w' /\ Holds bs base w' S' (fun W=>OSl R e size W S' v' (xs ++ [y]))/\(∀ k,S' k -> S k \/ Fn k \/ w.heap.size <= k)/\Off S w w' /\ (∃ g cap,v' = .slice (some ⟨g,0,none⟩) (n+1) cap):=by
 obtain ⟨cs,G,F,hp⟩:=H.now
 obtain ⟨v',w',G',hrun,r1,r2,r3, -⟩:=exec_oapp s x t e ho he hs hx hp.row (row_box (n:=1) hB (by omega) (by omega)) h1 (by omega) (by rw [hn];exact hbytes)
 obtain ⟨S',k1,k2,k3,k4⟩:=osnoc_fin hR hn H hp hel hF hFb hbs hbase r3 r1 r2
 exact ⟨v',w',S',hrun,k1,k2,k3,k4⟩
end Go.Proofs.YtgmhnepmkaonaaaGreat
namespace Go.Proofs.YtgmhnepmkaonaaaGreat
set_option linter.unusedSimpArgs false
set_option linter.unusedVariables false
open Go.RowKit
theorem OInts.addr {W:World} {S:Foot} {v:Value} {xs:List Int} (h:OInts W S v xs) {i:Nat} {x:Int} (hi:xs[i]? = some x) :
  ∃ g cap,v = .slice (some ⟨g,0,none⟩) xs.length cap/\S g/\g < W.heap.size/\W.cell? ⟨g,i,none⟩=some (.int .i64 x)/\(∀ o,W.frozen? ⟨g,o,none⟩=false) /\ ∀ y,In64 y -> OInts (W.setCell ⟨g,i,none⟩ (.int .i64 y)) S v (xs.set i y):=by
 have hil:=(List.getElem?_eq_some_iff.1 hi).1
 obtain ⟨g,cap,hv,hG, -, -,hgl,hcell,hfr⟩:=h.1.addr (by omega)
 exact ⟨g,cap,hv,hG,hgl,hcell i _ (by rw [List.getElem?_map,hi];rfl),hfr,fun y hy=>h.set hv hil hy⟩
end Go.Proofs.YtgmhnepmkaonaaaGreat
namespace Go.Proofs.YtgmhnepmkaonaaaGreat
set_option linter.unusedSimpArgs false
set_option linter.unusedVariables false
open Go.RowKit
def splitPhi (b n:Int) (still:Bool) (p:PhiD):PhiD :=
 if b ∈ p.src then
  if still then { p with src:=p.src ++ [n],vals:=p.vals ++ [p.vals.getD (p.src.idxOf b) 0] } else { p with src:=p.src.set (p.src.idxOf b) n }
 else p
theorem phiOk_split {nb:Nat} {b:Int} {still:Bool} {p:PhiD} (h:phiOk nb p=true):phiOk (nb+1) (splitPhi b nb still p)=true:=by
 unfold phiOk at h ⊢
 simp only [Bool.and_eq_true,List.all_eq_true,decide_eq_true_eq,beq_iff_eq] at h
 obtain ⟨⟨⟨h1,h2⟩,h3⟩,h4⟩:=h
 have hm:∀ x ∈ p.src,numB (nb+1) x=true:=fun x hx=>by
  have:=h3 x hx
  unfold numB at this ⊢
  simp at this ⊢;omega
 have hno:(nb:Int) ∉ p.src:=fun hx=>by
  have:=h3 _ hx
  unfold numB at this
  simp at this
 have hnb:numB (nb+1) (nb:Int)=true:=by unfold numB;simp;omega
 simp only [Bool.and_eq_true,List.all_eq_true,decide_eq_true_eq,beq_iff_eq]
 unfold splitPhi
 split
 ·rename_i hb
  split
  ·refine ⟨⟨⟨h1,by simp [h2]⟩,fun x hx => ?_⟩, ?_⟩
   ·rcases List.mem_append.1 hx with hx | hx
    ·exact hm x hx
    ·rw [List.mem_singleton.1 hx];exact hnb
   ·rw [List.nodup_append]
    exact ⟨h4,by simp,fun a ha c hc e=>by rw [List.mem_singleton] at hc;exact hno (by rw [<-hc, <-e];exact ha)⟩
  ·refine ⟨⟨⟨h1,by simp [h2]⟩,fun x hx => ?_⟩, ?_⟩
   ·rcases List.mem_or_eq_of_mem_set hx with hx | hx
    ·exact hm x hx
    ·rw [hx];exact hnb
   ·rw [List.nodup_iff_pairwise_ne,List.pairwise_iff_getElem]
    intro i j hi hj hij
    rw [List.getElem_set,List.getElem_set]
    have hi' : i < p.src.length:=by simpa using hi
    have hj' : j < p.src.length:=by simpa using hj
    split
    ·split
     ·omega
     ·intro e;exact hno (e ▸ List.getElem_mem hj')
    ·split
     ·intro e;exact hno (e ▸ List.getElem_mem hi')
     ·intro e
      rw [List.nodup_iff_pairwise_ne,List.pairwise_iff_getElem] at h4
      exact h4 i j hi' hj' hij e
 ·exact ⟨⟨⟨h1,h2⟩,hm⟩,h4⟩
theorem usesE_zero (T us:List (Int × Int)):usesE T us=0 ↔ ∀ u ∈ us,(tyOf T u.1).isSome=true/\useOdd T u=false:=by
 unfold usesE
 constructor
 ·intro h u hu
  split at h
  ·cases h
  ·split at h
   ·cases h
   ·rename_i h1 h2
    simp only [Bool.not_eq_true,List.any_eq_false] at h1 h2
    exact ⟨by simpa using h1 u hu,by simpa using h2 u hu⟩
 ·intro h
  have h1:us.any (fun u => !(tyOf T u.1).isSome)=false:=by rw [List.any_eq_false];intro u hu;simp [(h u hu).1]
  have h2:us.any (useOdd T)=false:=by rw [List.any_eq_false];intro u hu;simp [(h u hu).2]
  rw [h1,h2];simp
theorem check_zero {f:FuncD}:checkF f=0 ↔ headOk f=true/\f.params.all parOk=true/\(∀ i x,f.blocks[i]? = some x -> blockOk f.blocks.length f.arrays f.cells (x,i)=true)/\idsF f=true /\ ∀ x ∈ f.blocks, ∀ u ∈ usesB x,(tyOf (valsF f) u.1).isSome=true/\useOdd (valsF f) u=false:=by
 unfold checkF formB
 constructor
 ·intro h
  split at h
  ·rename_i h1
   simp only [Bool.and_eq_true] at h1
   refine ⟨h1.1.1.1,h1.1.1.2,fun i x hi=>List.all_eq_true.1 h1.1.2 (x,i) (by rw [List.mem_zipIdx_iff_getElem?];exact hi),h1.2,fun x hx u hu=>(usesE_zero _ _).1 h u ?_⟩
   unfold usesF
   rw [List.mem_flatMap]
   exact ⟨x,hx,hu⟩
  ·cases h
 ·rintro ⟨h1,h2,h3,h4,h5⟩
  have h6:f.blocks.zipIdx.all (blockOk f.blocks.length f.arrays f.cells)=true:=by
   rw [List.all_eq_true]
   rintro ⟨x,i⟩ hx
   rw [List.mem_zipIdx_iff_getElem?] at hx
   exact h3 i x hx
  rw [h1,h2,h6,h4]
  simp only [Bool.and_self,if_true]
  rw [usesE_zero]
  intro u hu
  unfold usesF at hu
  rw [List.mem_flatMap] at hu
  obtain ⟨x,hx,hu⟩:=hu
  exact h5 x hx u hu
theorem blockOk_parts {nb:Nat} {ar ce:Int} {x:BlockD} {i:Nat}:blockOk nb ar ce (x,i)=true ↔ (i=0 -> x.phis=[])/\(∀ p ∈ x.phis,phiOk nb p=true)/\(x.code.all (instrOk ar ce))=true/\endOk nb x.term=true:=by
 unfold blockOk
 simp only [Bool.and_eq_true,List.all_eq_true,Bool.not_eq_true',Bool.and_eq_false_iff,decide_eq_false_iff_not]
 constructor
 ·rintro ⟨⟨⟨h1,h2⟩,h3⟩,h4⟩
  refine ⟨fun hi => ?_,h2,h3,h4⟩
  rcases h1 with h1 | h1
  ·exact absurd hi h1
  ·exact List.eq_nil_of_length_eq_zero (by omega)
 ·rintro ⟨h1,h2,h3,h4⟩
  refine ⟨⟨⟨?_,h2⟩,h3⟩,h4⟩
  by_cases hi:i=0
  ·right;rw [h1 hi];simp
  ·left;exact hi
end Go.Proofs.YtgmhnepmkaonaaaGreat
namespace Go.Proofs.YtgmhnepmkaonaaaGreat
set_option linter.unusedSimpArgs false
set_option linter.unusedVariables false
open Go.RowKit
theorem getD_some {α : Type} {l:List α} {i:Nat} {x d : α} (h:l[i]? = some x):l.getD i d=x:=by rw [List.getD_eq_getElem?_getD,h];rfl
theorem modify_set {α : Type} {l:List α} {i:Nat} {x : α} (g : α -> α) (h:l[i]? = some x):l.modify i g=l.set i (g x):=by
 apply List.ext_getElem?
 intro j
 rw [List.getElem?_modify,List.getElem?_set]
 by_cases e:i=j
 ·subst e
  have:=(List.getElem?_eq_some_iff.1 h).1
  rw [h,if_pos rfl,if_pos this];simp
 ·simp [e]
end Go.Proofs.YtgmhnepmkaonaaaGreat
namespace Go.Proofs.YtgmhnepmkaonaaaGreat
set_option linter.unusedSimpArgs false
set_option linter.unusedVariables false
open Go.RowKit
theorem Off.grow {S S' : Foot} {A B C:World} (h:Off S A B) (k:Off S' B C) (hs:∀ q,S' q -> S q \/ A.heap.size <= q):Off S A C :=
 ⟨k.os.trans h.os,k.tape.trans h.tape,k.output.trans h.output,Nat.le_trans h.size k.size,fun i hi hn=>(k.block i (Nat.lt_of_lt_of_le hi h.size) fun hm=>(hs i hm).elim hn (fun h=>by omega)).trans (h.block i hi hn)⟩
theorem OInts.narrow {W:World} {S:Foot} {xs:List Int} {g cap n:Nat} (h:OInts W S (.slice (some ⟨g,0,none⟩) n cap) xs) (hn:0 < xs.length):OInts W (Foot.one g) (.slice (some ⟨g,0,none⟩) n cap) xs/\S g:=by
 obtain ⟨⟨h1,h2,h3,h4⟩,h5⟩:=h
 rcases h4 with ⟨h4,_⟩ | ⟨g',cap',cur,hv,hg,r⟩
 ·omega
 ·cases hv
  exact ⟨⟨⟨h1,h2,fun k hk=>by cases hk;exact h3 g hg,.inr ⟨g,cap,cur,rfl,rfl,r⟩⟩,h5⟩,hg⟩
theorem gives_iapp {w:World} {o:Oper} {a:Act} (s x:Operand)
  (ho:o.op = .call { callee:=.builtin .append,args:=#[s,x],argTypes:=#[22,22] }) {v:Value} {B:Nat} {y:Int} (hs:a.eval s=v) (hx:a.eval x = .slice (some ⟨B,0,none⟩) 1 1) {S:Foot} {xs:List Int} {n:Nat} (hn:xs.length=n)
  (H:OInts w S v xs) (hB:Box w B #[.int .i64 y]) (hy:In64 y) (hlen:n+1 <= 100000) {XF:Nat -> Foot} {i:Nat} (hX:∀ k,S k -> XF i k) :
  ∃ u w'',(execOp a.eval o).run Tryz.prog w = .ok (.value u) w'' /\ (∃ g cap,u = .slice (some ⟨g,0,none⟩) (n+1) cap/\OInts w'' (Foot.one g) u (xs ++ [y])/\(S g \/ w.heap.size <= g))/\Four.Step XF (fun _=>True) i w w'':=by
 obtain ⟨v',w',G',hrun,r1,r2,r3, -⟩:=exec_oapp (P:=Tryz.prog) s x 22 3 ho elInt hs hx H.1 (row_box (n:=1) (size:=1) (ds:=[.int .i64 y]) hB rfl (by omega)) (by intro u hu;simp at hu;subst hu;rfl) (by omega) (by omega)
 have hO:OInts w' G' v' (xs ++ [y]):=by
  refine ⟨?_,fun z hz => ?_⟩
  ·rw [List.length_append,List.map_append];exact r1
  ·rcases List.mem_append.1 hz with h | h
   ·exact H.2 z h
   ·simp at h;subst h;exact hy
 obtain ⟨g,cap,rfl,hg, -⟩:=hO.1.addr (by simp)
 have hl:(xs ++ [y]).length=n+1:=by simp [hn]
 rw [hl] at hO hrun
 obtain ⟨k1,k2⟩:=hO.narrow (by omega)
 exact ⟨_,w',hrun,⟨g,cap,rfl,k1,r2 g k2⟩,r3.mono fun k _ hk=>hX k hk,fun h=>h⟩
theorem gives_iapp2 {w:World} {o:Oper} {a:Act} (s x:Operand)
  (ho:o.op = .call { callee:=.builtin .append,args:=#[s,x],argTypes:=#[22,22] }) {v:Value} {B:Nat} {y:Int} (hs:a.eval s=v) (hx:a.eval x = .slice (some ⟨B,0,none⟩) 1 1) {S:Foot} {xs:List Int} {n:Nat} (hn:xs.length=n)
  (H:OInts w S v xs) (hB:Box w B #[.int .i64 y]) (hy:In64 y) (hlen:n+1 <= 100000) {XF:Nat -> Foot} {i:Nat} (hX:∀ k,S k -> XF i k) {Z:Value -> World -> Prop}
  (hZ:∀ g cap w'',OInts w'' (Foot.one g) (.slice (some ⟨g,0,none⟩) (n+1) cap) (xs ++ [y]) -> (S g \/ w.heap.size <= g) -> Z (.slice (some ⟨g,0,none⟩) (n+1) cap) w'') :
  ∃ u w'',(execOp a.eval o).run Tryz.prog w = .ok (.value u) w'' /\ Z u w'' /\ Four.Step XF (fun _=>True) i w w'':=by
 obtain ⟨u,w'',h1,⟨g,c,e,h2,h3⟩,h4⟩:=gives_iapp (XF:=XF) (i:=i) s x ho hs hx hn H hB hy hlen hX
 subst e
 exact ⟨_,w'',h1,hZ g c w'' h2 h3,h4⟩
theorem Off.cell {S:Foot} {W W' : World} (h:Off S W W') {b o:Nat} (hl:b < W.heap.size) (hn:¬ S b):W'.cell? ⟨b,o,none⟩=W.cell? ⟨b,o,none⟩:=World.cell?_of_block (w:=W) (a:=⟨b,o,none⟩) (h.block b hl hn)
theorem idxI_mem {xs:List Int} {x:Int} (h:x ∈ xs):idxI xs x=(xs.idxOf x:Nat):=if_pos h
theorem block_sizes {f:FuncD} (hc:checkF f=0):(∀ x ∈ f.blocks,x.phis.length <= 100000/\x.code.length <= 100000)/\f.blocks.length <= 100000:=by
 have hf:=(check_fine hc).1
 have hs:=(even_of hf).size
 have hn:=(formB_nb hf).2
 refine ⟨fun x hx => ?_,by omega⟩
 have h1:sizeB x <= sizeF f:=by
  unfold sizeF
  have:∀ (l:List BlockD),x ∈ l -> sizeB x <= (l.map sizeB).sum/\0 <= (l.map sizeB).sum:=by
   intro l
   induction l with
   | nil=>intro h;cases h
   | cons y l ih =>
    intro h
    have hy:0 <= sizeB y:=by unfold sizeB;omega
    have hnn:∀ (l:List BlockD),0 <= (l.map sizeB).sum:=by
     intro l
     induction l with
     | nil=>simp
     | cons z l ih=>have:0 <= sizeB z:=(by unfold sizeB;omega);simp only [List.map_cons,List.sum_cons];omega
    have:=hnn l
    simp only [List.map_cons,List.sum_cons]
    rcases List.mem_cons.1 h with rfl | h
    ·omega
    ·have:=(ih h).1;omega
  exact (this _ hx).1
 unfold sizeB at h1
 omega
end Go.Proofs.YtgmhnepmkaonaaaGreat
