/- Part 31. -/
import Derived.Test.YtgmhnepmkaonaaaGreatPD29
import Derived.Test.YtgmhnepmkaonaaaGreatPD30
import Derived.Test.YtgmhnepmkaonaaaGreatPD6
import Derived.Test.YtgmhnepmkaonaaaGreatPD24
import Derived.Test.YtgmhnepmkaonaaaGreatPD25
import Derived.Test.YtgmhnepmkaonaaaGreatPD28
namespace Go.Proofs.YtgmhnepmkaonaaaGreat
set_option linter.unusedSimpArgs false
set_option linter.unusedVariables false
open Go.RowKit
structure Holds (bs:List Nat) (base:Nat) (W:World) (S:Foot) (K:World -> Prop):Prop where
 now:K W
 keep:∀ W1 W2,K W1 -> (∀ k,S k -> W2.heap[k]? = W1.heap[k]?) -> K W2
 lt:∀ k,S k -> k < W.heap.size
 base:∀ k,S k -> base <= k
 free:∀ k,S k -> k ∉ bs
theorem Holds.off {bs:List Nat} {base:Nat} {W W' : World} {S D:Foot} {K:World -> Prop} (h:Holds bs base W S K) (ho:Off D W W') (hn:S.off D):Holds bs base W' S K :=
 ⟨h.keep _ _ h.now fun k hk=>ho.block k (h.lt k hk) (hn k hk),h.keep,fun k hk=>Nat.lt_of_lt_of_le (h.lt k hk) ho.size,h.base,h.free⟩
theorem Holds.later {bs:List Nat} {base:Nat} {W W' : World} {S:Foot} {K:World -> Prop} (h:Holds bs base W S K) (hb:Below W.heap.size W W'):Holds bs base W' S K :=
 h.off (.of_below hb Foot.none) fun k _ hk=>hk
theorem Holds.alloc {bs:List Nat} {base:Nat} {W:World} {S:Foot} {K:World -> Prop} (h:Holds bs base W S K) (o:Obj):Holds bs base (W.alloc o) S K:=h.later ((Below.refl _ _).alloc (Nat.le_refl _) o)
theorem Holds.other {bs:List Nat} {base:Nat} {W:World} {S:Foot} {K:World -> Prop} (h:Holds bs base W S K) {p:Addr} (v:Value) (hp:p.block ∈ bs):Holds bs base (W.setCell p v) S K :=
 h.off (Off.set W p v) fun k hk he=>h.free k hk (by cases he;exact hp)
theorem Holds.more {bs:List Nat} {base:Nat} {W:World} {S:Foot} {K:World -> Prop} (h:Holds bs base W S K) {b:Nat} (hb:W.heap.size <= b):Holds (b :: bs) base W S K :=
 ⟨h.now,h.keep,h.lt,h.base,fun k hk hm=>by
  rcases List.mem_cons.1 hm with rfl | hm
  ·have:=h.lt _ hk;omega
  ·exact h.free k hk hm⟩
theorem Holds.less {bs bs' : List Nat} {base:Nat} {W:World} {S:Foot} {K:World -> Prop} (h:Holds bs base W S K) (hb:∀ b ∈ bs',b ∈ bs):Holds bs' base W S K :=
 ⟨h.now,h.keep,h.lt,h.base,fun k hk hm=>h.free k hk (hb k hm)⟩
theorem Holds.from {bs:List Nat} {base base' : Nat} {W:World} {S:Foot} {K:World -> Prop} (h:Holds bs base W S K) (hb:base' <= base):Holds bs base' W S K:=⟨h.now,h.keep,h.lt,fun k hk=>Nat.le_trans hb (h.base k hk),h.free⟩
theorem holds_ints {base:Nat} {W:World} {S:Foot} {v:Value} {xs:List Int} (h:OInts W S v xs) (hf:Fresh base S):Holds [] base W S (fun W=>OInts W S v xs) :=
 ⟨h,fun _ _ h hk=>h.keep hk,h.lt,hf,fun _ _ hm=>by cases hm⟩
theorem holds_sl {α : Type} {R:World -> Foot -> List Value -> α -> Prop} (hR:Nice R) {base:Nat} {e:TypeId} {size:Nat} {W:World} {S:Foot} {v:Value} {xs:List α} (h:OSl R e size W S v xs) (hf:Fresh base S):Holds [] base W S (fun W=>OSl R e size W S v xs) :=
 ⟨h,fun _ _ h hk=>h.keep hR hk,h.lt,hf,fun _ _ hm=>by cases hm⟩
theorem row_box {W:World} {B n size:Nat} {ds:List Value} (h:Box W B ds.toArray) (hs:ds.length=n * size) (hn:n <= 17592186044416):Row W (.slice (some ⟨B,0,none⟩) n n) n size ds:=by
 have:=Row.of_box (n:=n) (size:=size) h (by simpa using hs) hn
 simpa using this
theorem osnoc_fin {α : Type} {R:World -> Foot -> List Value -> α -> Prop} (hR:Nice R) {e:TypeId} {size:Nat} {w w' : World} {bs:List Nat} {base:Nat} {S Fn G' : Foot} {v v' : Value} {xs:List α} {y : α} {cs ds:List Value} {G:Foot} {F:Nat -> Foot} {n:Nat} (hn:xs.length=n)
  (H:Holds bs base w S (fun W=>OSl R e size W S v xs)) (hp:OParts R e size w S v xs cs G F) (hel:R w Fn ds y) (hF:Fn.off S) (hFb:Fresh base Fn) (hbs:∀ b ∈ bs,b < base) (hbase:base <= w.heap.size)
  (ho:Off G w w') (hrow:ORow w' G' e size v' (xs.length+1) (cs ++ ds)) (hG:∀ k,G' k -> G k \/ w.heap.size <= k) :
  ∃ S',Holds bs base w' S' (fun W=>OSl R e size W S' v' (xs ++ [y]))/\(∀ k,S' k -> S k \/ Fn k \/ w.heap.size <= k)/\Off S w w' /\ ∃ g cap,v' = .slice (some ⟨g,0,none⟩) (n+1) cap:=by
 have h1:=hp.snoc hR hel hF ho hrow hG
 have h2:∀ k,(S k \/ Fn k \/ G' k) -> S k \/ Fn k \/ w.heap.size <= k:=fun k hk=>by
  rcases hk with hk | hk | hk
  ·exact .inl hk
  ·exact .inr (.inl hk)
  ·rcases hG k hk with hk | hk
   ·exact .inl (hp.inG k hk)
   ·exact .inr (.inr hk)
 refine ⟨_,⟨⟨_,_,_,h1⟩,fun _ _ h hk=>h.keep hR hk,h1.lt,fun k hk => ?_,fun k hk hm => ?_⟩,h2,ho.mono fun k _ hk=>hp.inG k hk, ?_⟩
 ·rcases h2 k hk with hk | hk | hk
  ·exact H.base k hk
  ·exact hFb k hk
  ·omega
 ·rcases h2 k hk with hk | hk | hk
  ·exact H.free k hk hm
  ·have:=hFb k hk;have:=hbs k hm;omega
  ·have:=hbs k hm;omega
 ·obtain ⟨g,cap,hv, -⟩:=hrow.addr (by omega)
  exact ⟨g,cap,by rw [<-hn];exact hv⟩
theorem wpList_osnoc {α : Type} {R:World -> Foot -> List Value -> α -> Prop} (hR:Nice R) {P:Program} {w:World} {ops:Array Oper} {rest:List Oper} {o:Oper} {a:Act} {Q:Exit -> Act -> World -> Prop} (hgd:o.guard=none) (s x:Operand) (t e:TypeId)
  (ho:o.op = .call { callee:=.builtin .append,args:=#[s,x],argTypes:=#[t,t] }) {z:Value} {size bytes:Nat} (he:Elem P t e z size bytes)
  {v:Value} {B:Nat} {ds:List Value} (hs:a.eval s=v) (hx:a.eval x = .slice (some ⟨B,0,none⟩) 1 1) {bs:List Nat} {base:Nat} {S Fn:Foot} {xs:List α} {y : α} {n:Nat} (hn:xs.length=n)
  (H:Holds bs base w S (fun W=>OSl R e size W S v xs)) (hB:Box w B ds.toArray) (hds:ds.length=size) (hel:R w Fn ds y) (hF:Fn.off S) (hFb:Fresh base Fn) (hbs:∀ b ∈ bs,b < base) (hbase:base <= w.heap.size)
  (h1:∀ u ∈ ds,u.oneCell' = true) (hlen:n+1 <= 17592186044416) (hbytes:(n+1) * bytes <= 140737488355328)
  (hK:∀ v' w' S',Holds bs base w' S' (fun W=>OSl R e size W S' v' (xs ++ [y])) -> (∀ k,S' k -> S k \/ Fn k \/ w.heap.size <= k) -> Off S w w' -> (∃ g cap,v' = .slice (some ⟨g,0,none⟩) (n+1) cap) -> wpList P ops Q rest (a.put o.dst v') w'):wpList P ops Q (o :: rest) a w:=by
 obtain ⟨cs,G,F,hp⟩:=H.now
 refine wpList_oapp hgd s x t e ho he hs hx hp.row (row_box (n:=1) hB (by omega) (by omega)) h1 (by omega) (by rw [hn];exact hbytes) fun v' w' G' r1 r2 r3 => ?_
 obtain ⟨S',k1,k2,k3,k4⟩:=osnoc_fin hR hn H hp hel hF hFb hbs hbase r3 r1 r2
 exact hK v' w' S' k1 k2 k3 k4
theorem exec_osnoc {α : Type} {R:World -> Foot -> List Value -> α -> Prop} (hR:Nice R) {P:Program} {w:World} {o:Oper} {a:Act} (s x:Operand) (t e:TypeId)
  (ho:o.op = .call { callee:=.builtin .append,args:=#[s,x],argTypes:=#[t,t] }) {z:Value} {size bytes:Nat} (he:Elem P t e z size bytes)
  {v:Value} {B:Nat} {ds:List Value} (hs:a.eval s=v) (hx:a.eval x = .slice (some ⟨B,0,none⟩) 1 1) {bs:List Nat} {base:Nat} {S Fn:Foot} {xs:List α} {y : α} {n:Nat} (hn:xs.length=n)
  (H:Holds bs base w S (fun W=>OSl R e size W S v xs)) (hB:Box w B ds.toArray) (hds:ds.length=size) (hel:R w Fn ds y) (hF:Fn.off S) (hFb:Fresh base Fn) (hbs:∀ b ∈ bs,b < base) (hbase:base <= w.heap.size)
  (h1:∀ u ∈ ds,u.oneCell' = true) (hlen:n+1 <= 17592186044416) (hbytes:(n+1) * bytes <= 140737488355328) :
  ∃ v' w' S',(execOp a.eval o).run P w = .ok (.value v') w' /\ Holds bs base w' S' (fun W=>OSl R e size W S' v' (xs ++ [y]))/\(∀ k,S' k -> S k \/ Fn k \/ w.heap.size <= k)/\Off S w w' /\ (∃ g cap,v' = .slice (some ⟨g,0,none⟩) (n+1) cap):=by
 obtain ⟨cs,G,F,hp⟩:=H.now
 obtain ⟨v',w',G',hrun,r1,r2,r3, -⟩:=exec_oapp s x t e ho he hs hx hp.row (row_box (n:=1) hB (by omega) (by omega)) h1 (by omega) (by rw [hn];exact hbytes)
 obtain ⟨S',k1,k2,k3,k4⟩:=osnoc_fin hR hn H hp hel hF hFb hbs hbase r3 r1 r2
 exact ⟨v',w',S',hrun,k1,k2,k3,k4⟩
theorem OInts.addr {W:World} {S:Foot} {v:Value} {xs:List Int} (h:OInts W S v xs) {i:Nat} {x:Int} (hi:xs[i]? = some x) :
  ∃ g cap,v = .slice (some ⟨g,0,none⟩) xs.length cap/\S g/\g < W.heap.size/\W.cell? ⟨g,i,none⟩=some (.int .i64 x)/\(∀ o,W.frozen? ⟨g,o,none⟩=false) /\ ∀ y,In64 y -> OInts (W.setCell ⟨g,i,none⟩ (.int .i64 y)) S v (xs.set i y):=by
 have hil:=(List.getElem?_eq_some_iff.1 hi).1
 obtain ⟨g,cap,hv,hG, -, -,hgl,hcell,hfr⟩:=h.1.addr (by omega)
 exact ⟨g,cap,hv,hG,hgl,hcell i _ (by rw [List.getElem?_map,hi];rfl),hfr,fun y hy=>h.set hv hil hy⟩
def splitPhi (b n:Int) (still:Bool) (p:PhiD):PhiD :=
 if b ∈ p.src then
  if still then { p with src:=p.src ++ [n],vals:=p.vals ++ [p.vals.getD (p.src.idxOf b) 0] } else { p with src:=p.src.set (p.src.idxOf b) n }
 else p
theorem phiOk_split {nb:Nat} {b:Int} {still:Bool} {p:PhiD} (h:phiOk nb p=true):phiOk (nb+1) (splitPhi b nb still p)=true:=by
 unfold phiOk at h ⊢
 simp only [Bool.and_eq_true,List.all_eq_true,decide_eq_true_eq,beq_iff_eq] at h
 obtain ⟨⟨⟨h1,h2⟩,h3⟩,h4⟩:=h
 have hm:∀ x ∈ p.src,numB (nb+1) x=true:=fun x hx=>by
  have:=h3 x hx
  unfold numB at this ⊢
  simp at this ⊢;omega
 have hno:(nb:Int) ∉ p.src:=fun hx=>by
  have:=h3 _ hx
  unfold numB at this
  simp at this
 have hnb:numB (nb+1) (nb:Int)=true:=by unfold numB;simp;omega
 simp only [Bool.and_eq_true,List.all_eq_true,decide_eq_true_eq,beq_iff_eq]
 unfold splitPhi
 split
 ·rename_i hb
  split
  ·refine ⟨⟨⟨h1,by simp [h2]⟩,fun x hx => ?_⟩, ?_⟩
   ·rcases List.mem_append.1 hx with hx | hx
    ·exact hm x hx
    ·rw [List.mem_singleton.1 hx];exact hnb
   ·rw [List.nodup_append]
    exact ⟨h4,by simp,fun a ha c hc e=>by rw [List.mem_singleton] at hc;exact hno (by rw [<-hc, <-e];exact ha)⟩
  ·refine ⟨⟨⟨h1,by simp [h2]⟩,fun x hx => ?_⟩, ?_⟩
   ·rcases List.mem_or_eq_of_mem_set hx with hx | hx
    ·exact hm x hx
    ·rw [hx];exact hnb
   ·rw [List.nodup_iff_pairwise_ne,List.pairwise_iff_getElem]
    intro i j hi hj hij
    rw [List.getElem_set,List.getElem_set]
    have hi' : i < p.src.length:=by simpa using hi
    have hj' : j < p.src.length:=by simpa using hj
    split
    ·split
     ·omega
     ·intro e;exact hno (e ▸ List.getElem_mem hj')
    ·split
     ·intro e;exact hno (e ▸ List.getElem_mem hi')
     ·intro e
      rw [List.nodup_iff_pairwise_ne,List.pairwise_iff_getElem] at h4
      exact h4 i j hi' hj' hij e
 ·exact ⟨⟨⟨h1,h2⟩,hm⟩,h4⟩
theorem usesE_zero (T us:List (Int × Int)):usesE T us=0 ↔ ∀ u ∈ us,(tyOf T u.1).isSome=true/\useOdd T u=false:=by
 unfold usesE
 constructor
 ·intro h u hu
  split at h
  ·cases h
  ·split at h
   ·cases h
   ·rename_i h1 h2
    simp only [Bool.not_eq_true,List.any_eq_false] at h1 h2
    exact ⟨by simpa using h1 u hu,by simpa using h2 u hu⟩
 ·intro h
  have h1:us.any (fun u => !(tyOf T u.1).isSome)=false:=by rw [List.any_eq_false];intro u hu;simp [(h u hu).1]
  have h2:us.any (useOdd T)=false:=by rw [List.any_eq_false];intro u hu;simp [(h u hu).2]
  rw [h1,h2];simp
theorem check_zero {f:FuncD}:checkF f=0 ↔ headOk f=true/\f.params.all parOk=true/\(∀ i x,f.blocks[i]? = some x -> blockOk f.blocks.length f.arrays f.cells (x,i)=true)/\idsF f=true /\ ∀ x ∈ f.blocks, ∀ u ∈ usesB x,(tyOf (valsF f) u.1).isSome=true/\useOdd (valsF f) u=false:=by
 unfold checkF formB
 constructor
 ·intro h
  split at h
  ·rename_i h1
   simp only [Bool.and_eq_true] at h1
   refine ⟨h1.1.1.1,h1.1.1.2,fun i x hi=>List.all_eq_true.1 h1.1.2 (x,i) (by rw [List.mem_zipIdx_iff_getElem?];exact hi),h1.2,fun x hx u hu=>(usesE_zero _ _).1 h u ?_⟩
   unfold usesF
   rw [List.mem_flatMap]
   exact ⟨x,hx,hu⟩
  ·cases h
 ·rintro ⟨h1,h2,h3,h4,h5⟩
  have h6:f.blocks.zipIdx.all (blockOk f.blocks.length f.arrays f.cells)=true:=by
   rw [List.all_eq_true]
   rintro ⟨x,i⟩ hx
   rw [List.mem_zipIdx_iff_getElem?] at hx
   exact h3 i x hx
  rw [h1,h2,h6,h4]
  simp only [Bool.and_self,if_true]
  rw [usesE_zero]
  intro u hu
  unfold usesF at hu
  rw [List.mem_flatMap] at hu
  obtain ⟨x,hx,hu⟩:=hu
  exact h5 x hx u hu
theorem blockOk_parts {nb:Nat} {ar ce:Int} {x:BlockD} {i:Nat}:blockOk nb ar ce (x,i)=true ↔ (i=0 -> x.phis=[])/\(∀ p ∈ x.phis,phiOk nb p=true)/\(x.code.all (instrOk ar ce))=true/\endOk nb x.term=true:=by
 unfold blockOk
 simp only [Bool.and_eq_true,List.all_eq_true,Bool.not_eq_true',Bool.and_eq_false_iff,decide_eq_false_iff_not]
 constructor
 ·rintro ⟨⟨⟨h1,h2⟩,h3⟩,h4⟩
  refine ⟨fun hi => ?_,h2,h3,h4⟩
  rcases h1 with h1 | h1
  ·exact absurd hi h1
  ·exact List.eq_nil_of_length_eq_zero (by omega)
 ·rintro ⟨h1,h2,h3,h4⟩
  refine ⟨⟨⟨?_,h2⟩,h3⟩,h4⟩
  by_cases hi:i=0
  ·right;rw [h1 hi];simp
  ·left;exact hi
theorem getD_some {α : Type} {l:List α} {i:Nat} {x d : α} (h:l[i]? = some x):l.getD i d=x:=by rw [List.getD_eq_getElem?_getD,h];rfl
theorem modify_set {α : Type} {l:List α} {i:Nat} {x : α} (g : α -> α) (h:l[i]? = some x):l.modify i g=l.set i (g x):=by
 apply List.ext_getElem?
 intro j
 rw [List.getElem?_modify,List.getElem?_set]
 by_cases e:i=j
 ·subst e
  have:=(List.getElem?_eq_some_iff.1 h).1
  rw [h,if_pos rfl,if_pos this];simp
 ·simp [e]
theorem Off.grow {S S' : Foot} {A B C:World} (h:Off S A B) (k:Off S' B C) (hs:∀ q,S' q -> S q \/ A.heap.size <= q):Off S A C :=
 ⟨k.os.trans h.os,k.tape.trans h.tape,k.output.trans h.output,Nat.le_trans h.size k.size,fun i hi hn=>(k.block i (Nat.lt_of_lt_of_le hi h.size) fun hm=>(hs i hm).elim hn (fun h=>by omega)).trans (h.block i hi hn)⟩
theorem OInts.narrow {W:World} {S:Foot} {xs:List Int} {g cap n:Nat} (h:OInts W S (.slice (some ⟨g,0,none⟩) n cap) xs) (hn:0 < xs.length):OInts W (Foot.one g) (.slice (some ⟨g,0,none⟩) n cap) xs/\S g:=by
 obtain ⟨⟨h1,h2,h3,h4⟩,h5⟩:=h
 rcases h4 with ⟨h4,_⟩ | ⟨g',cap',cur,hv,hg,r⟩
 ·omega
 ·cases hv
  exact ⟨⟨⟨h1,h2,fun k hk=>by cases hk;exact h3 g hg,.inr ⟨g,cap,cur,rfl,rfl,r⟩⟩,h5⟩,hg⟩
theorem gives_iapp {w:World} {o:Oper} {a:Act} (s x:Operand)
  (ho:o.op = .call { callee:=.builtin .append,args:=#[s,x],argTypes:=#[22,22] }) {v:Value} {B:Nat} {y:Int} (hs:a.eval s=v) (hx:a.eval x = .slice (some ⟨B,0,none⟩) 1 1) {S:Foot} {xs:List Int} {n:Nat} (hn:xs.length=n)
  (H:OInts w S v xs) (hB:Box w B #[.int .i64 y]) (hy:In64 y) (hlen:n+1 <= 100000) {XF:Nat -> Foot} {i:Nat} (hX:∀ k,S k -> XF i k) :
  ∃ u w'',(execOp a.eval o).run Tryz.prog w = .ok (.value u) w'' /\ (∃ g cap,u = .slice (some ⟨g,0,none⟩) (n+1) cap/\OInts w'' (Foot.one g) u (xs ++ [y])/\(S g \/ w.heap.size <= g))/\Four.Step XF (fun _=>True) i w w'':=by
 obtain ⟨v',w',G',hrun,r1,r2,r3, -⟩:=exec_oapp (P:=Tryz.prog) s x 22 3 ho elInt hs hx H.1 (row_box (n:=1) (size:=1) (ds:=[.int .i64 y]) hB rfl (by omega)) (by intro u hu;simp at hu;subst hu;rfl) (by omega) (by omega)
 have hO:OInts w' G' v' (xs ++ [y]):=by
  refine ⟨?_,fun z hz => ?_⟩
  ·rw [List.length_append,List.map_append];exact r1
  ·rcases List.mem_append.1 hz with h | h
   ·exact H.2 z h
   ·simp at h;subst h;exact hy
 obtain ⟨g,cap,rfl,hg, -⟩:=hO.1.addr (by simp)
 have hl:(xs ++ [y]).length=n+1:=by simp [hn]
 rw [hl] at hO hrun
 obtain ⟨k1,k2⟩:=hO.narrow (by omega)
 exact ⟨_,w',hrun,⟨g,cap,rfl,k1,r2 g k2⟩,r3.mono fun k _ hk=>hX k hk,fun h=>h⟩
theorem gives_iapp2 {w:World} {o:Oper} {a:Act} (s x:Operand)
  (ho:o.op = .call { callee:=.builtin .append,args:=#[s,x],argTypes:=#[22,22] }) {v:Value} {B:Nat} {y:Int} (hs:a.eval s=v) (hx:a.eval x = .slice (some ⟨B,0,none⟩) 1 1) {S:Foot} {xs:List Int} {n:Nat} (hn:xs.length=n)
  (H:OInts w S v xs) (hB:Box w B #[.int .i64 y]) (hy:In64 y) (hlen:n+1 <= 100000) {XF:Nat -> Foot} {i:Nat} (hX:∀ k,S k -> XF i k) {Z:Value -> World -> Prop}
  (hZ:∀ g cap w'',OInts w'' (Foot.one g) (.slice (some ⟨g,0,none⟩) (n+1) cap) (xs ++ [y]) -> (S g \/ w.heap.size <= g) -> Z (.slice (some ⟨g,0,none⟩) (n+1) cap) w'') :
  ∃ u w'',(execOp a.eval o).run Tryz.prog w = .ok (.value u) w'' /\ Z u w'' /\ Four.Step XF (fun _=>True) i w w'':=by
 obtain ⟨u,w'',h1,⟨g,c,e,h2,h3⟩,h4⟩:=gives_iapp (XF:=XF) (i:=i) s x ho hs hx hn H hB hy hlen hX
 subst e
 exact ⟨_,w'',h1,hZ g c w'' h2 h3,h4⟩
theorem Off.cell {S:Foot} {W W' : World} (h:Off S W W') {b o:Nat} (hl:b < W.heap.size) (hn:¬ S b):W'.cell? ⟨b,o,none⟩=W.cell? ⟨b,o,none⟩:=World.cell?_of_block (w:=W) (a:=⟨b,o,none⟩) (h.block b hl hn)
theorem idxI_mem {xs:List Int} {x:Int} (h:x ∈ xs):idxI xs x=(xs.idxOf x:Nat):=if_pos h
theorem block_sizes {f:FuncD} (hc:checkF f=0):(∀ x ∈ f.blocks,x.phis.length <= 100000/\x.code.length <= 100000)/\f.blocks.length <= 100000:=by
 have hf:=(check_fine hc).1
 have hs:=(even_of hf).size
 have hn:=(formB_nb hf).2
 refine ⟨fun x hx => ?_,by omega⟩
 have h1:sizeB x <= sizeF f:=by
  unfold sizeF
  have:∀ (l:List BlockD),x ∈ l -> sizeB x <= (l.map sizeB).sum/\0 <= (l.map sizeB).sum:=by
   intro l
   induction l with
   | nil=>intro h;cases h
   | cons y l ih =>
    intro h
    have hy:0 <= sizeB y:=by unfold sizeB;omega
    have hnn:∀ (l:List BlockD),0 <= (l.map sizeB).sum:=by
     intro l
     induction l with
     | nil=>simp
     | cons z l ih=>have:0 <= sizeB z:=(by unfold sizeB;omega);simp only [List.map_cons,List.sum_cons];omega
    have:=hnn l
    simp only [List.map_cons,List.sum_cons]
    rcases List.mem_cons.1 h with rfl | h
    ·omega
    ·have:=(ih h).1;omega
  exact (this _ hx).1
 unfold sizeB at h1
 omega
theorem Off.frozen2 {S:Foot} {W W' : World} (h:Off S W W') {p:Addr} (hl:p.block < W.heap.size) (hn:¬ S p.block):W'.frozen? p=W.frozen? p:=World.frozen?_of_block (w:=W) (h.block p.block hl hn)
theorem Off.cell2 {S:Foot} {W W' : World} (h:Off S W W') {p:Addr} (hl:p.block < W.heap.size) (hn:¬ S p.block):W'.cell? p=W.cell? p:=World.cell?_of_block (w:=W) (h.block p.block hl hn)
def OLis (W:World) (S:Foot) (cs:List Value) (xs:List Int):Prop := ∃ v,cs=[v]/\OInts W S v xs
theorem OLis.nice:Nice OLis where
 keep:=fun ⟨v,e,h⟩ hk=>⟨v,e,h.keep hk⟩
 lt:=fun ⟨v,e,h⟩=>h.lt
 wide:=fun ⟨v,e,h⟩ hs hl=>⟨v,e,h.wide hs hl⟩
abbrev OLists:=OSl OLis 22 1
theorem elLis:Elem Tryz.prog 42 22 (.slice none 0 0) 1 24:=elem_of Tryz.underlying42 (by kernel_rfl) rfl (by omega)
theorem OLists.open {W:World} {S:Foot} {v:Value} {xs:List (List Int)} (h:OLists W S v xs) {n:Nat} {a:List Int} (hn:xs[n]? = some a) :
  ∃ (ga cap c:Nat) (ad:Option Addr),v = .slice (some ⟨ga,0,none⟩) xs.length cap/\ga < W.heap.size/\S ga/\W.cell? ⟨ga,n,none⟩=some (.slice ad a.length c)/\Ints W (.slice ad a.length c) a /\
   ∀ i x,a[i]? = some x -> ∃ g,ad=some ⟨g,0,none⟩/\S g/\g < W.heap.size/\g ≠ ga/\W.cell? ⟨g,i,none⟩=some (.int .i64 x)/\(∀ o,W.frozen? ⟨g,o,none⟩=false) /\
    ∀ y,In64 y -> OLists (W.setCell ⟨g,i,none⟩ (.int .i64 y)) S v (xs.set n (a.set i y)):=by
 obtain ⟨cs,G,F,hp⟩:=h
 have hnl:=(List.getElem?_eq_some_iff.1 hn).1
 obtain ⟨ga,cap,hv,hG, -, -,hgl,hcell,hfr⟩:=hp.row.addr (by omega)
 obtain ⟨u,hu,ho⟩:=hp.el n a hn
 obtain ⟨ad,c,rfl⟩:=ho.ints.form
 have hc0:cs[n]? = some (.slice ad a.length c):=by
  have h1:=chunk_at (cs:=cs) (size:=1) (j:=n) (i:=0) (by omega)
  rw [hu] at h1
  simpa using h1.symm
 refine ⟨ga,cap,c,ad,hv,hgl,hp.inG _ hG,hcell n _ hc0,ho.ints,fun i x hi => ?_⟩
 obtain ⟨g,cap2,hg,hFg,hgl2,hci,hfi,hset⟩:=ho.addr hi
 have e:ad=some ⟨g,0,none⟩:=by injection hg
 have hne:g ≠ ga:=fun e2=>hp.free n hnl g hFg (by rw [e2];exact hG)
 refine ⟨g,e,hp.inF n g hnl hFg,hgl2,hne,hci,hfi,fun y hy => ?_⟩
 have hoff:=Off.set W ⟨g,i,none⟩ (.int .i64 y)
 refine ⟨cs,G,_,hp.put OLis.nice hn (a.set i y) (Fj:=F n) (hoff.mono fun k _ hk=>by cases hk;exact .inr hFg) (hp.row.off hoff fun k h1 h2=>by cases h2;exact hp.free n hnl _ hFg h1) (fun _ _ _=>rfl) ⟨_,hu,hset y hy⟩ (fun k hk=>.inl hk) S (fun k hk=>hk) (fun k hk=>hp.inF n k hnl hk) (fun k hk=>by simpa [World.setCell] using hp.lt k hk)⟩
structure MachP (base bs fuel:Nat) (W:World) (bm:Nat) (s:RunS) (o:OverD) (ov av vv cv:Value) (mv:Nat) (m:List (Int × Value)) (F:Nat -> Foot):Prop where
 box:Box W bm #[.int .i64 o.how,.int .i64 o.value,.int .i64 o.trap,ov,av,.int .i64 s.steps,.int .i64 s.checks,vv,.pointer (some ⟨bs,0,none⟩),.int .i64 fuel,.map (some mv),cv]
 b0:∀ k,F 0 k ↔ k=bm
 out:OInts W (F 1) ov s.out
 arr:OLists W (F 2) av s.arrays
 vis:OInts W (F 3) vv (natI s.visits)
 mp:IMap W mv m
 m4:∀ k,F 4 k ↔ k=mv
 val:∀ id,(mget m id).getD (.int .i64 0) = .int .i64 (s.vals id)
 cel:OInts W (F 5) cv s.cells
 v64:∀ id,In64 (s.vals id)
 apart:∀ i j,i ≠ j -> (F i).off (F j)
 six:∀ i k,F i k -> i < 6
 base:∀ i k,F i k -> base <= k
theorem MachP.lt {base bs fuel:Nat} {W:World} {bm:Nat} {s:RunS} {o:OverD} {ov av vv cv:Value} {mv:Nat} {m:List (Int × Value)} {F:Nat -> Foot} (h:MachP base bs fuel W bm s o ov av vv cv mv m F) {i k:Nat} (hk:F i k):k < W.heap.size:=by
 have h6:=h.six i k hk
 rcases i with _ | _ | _ | _ | _ | _ | i
 ·rw [(h.b0 k).1 hk];exact h.box.lt
 ·exact h.out.lt k hk
 ·exact h.arr.lt k hk
 ·exact h.vis.lt k hk
 ·rw [(h.m4 k).1 hk];exact h.mp.lt
 ·exact h.cel.lt k hk
 ·omega
theorem MachP.keep {base bs fuel:Nat} {W W' : World} {bm:Nat} {s:RunS} {o:OverD} {ov av vv cv:Value} {mv:Nat} {m:List (Int × Value)} {F:Nat -> Foot} (h:MachP base bs fuel W bm s o ov av vv cv mv m F) {D:Foot} (ho:Off D W W') (hD:∀ i k,F i k -> ¬ D k):MachP base bs fuel W' bm s o ov av vv cv mv m F :=
 ⟨h.box.off ho (hD 0 _ ((h.b0 _).2 rfl)),h.b0,h.out.off ho (hD 1),h.arr.off OLis.nice ho (hD 2),h.vis.off ho (hD 3),h.mp.keep (ho.block _ h.mp.lt (hD 4 _ ((h.m4 _).2 rfl))),h.m4,h.val,h.cel.off ho (hD 5),h.v64,h.apart,h.six,h.base⟩
theorem MachP.later {base bs fuel:Nat} {W W' : World} {bm:Nat} {s:RunS} {o:OverD} {ov av vv cv:Value} {mv:Nat} {m:List (Int × Value)} {F:Nat -> Foot} (h:MachP base bs fuel W bm s o ov av vv cv mv m F) (hb:Below W.heap.size W W'):MachP base bs fuel W' bm s o ov av vv cv mv m F :=
 h.keep (Off.of_below hb Foot.none) fun _ _ _ h=>h
theorem MachP.put {base bs fuel:Nat} {W:World} {bm:Nat} {s s' : RunS} {o o' : OverD} {ov av vv cv ov' av' vv' cv' : Value} {mv:Nat} {m:List (Int × Value)} {F:Nat -> Foot} (h:MachP base bs fuel W bm s o ov av vv cv mv m F) (i:Nat) (v:Value)
  (hb:#[Value.int .i64 o.how,.int .i64 o.value,.int .i64 o.trap,ov,av,.int .i64 s.steps,.int .i64 s.checks,vv,.pointer (some ⟨bs,0,none⟩),.int .i64 fuel,.map (some mv),cv].setIfInBounds i v = #[.int .i64 o'.how,.int .i64 o'.value,.int .i64 o'.trap,ov',av',.int .i64 s'.steps,.int .i64 s'.checks,vv',.pointer (some ⟨bs,0,none⟩),.int .i64 fuel,.map (some mv),cv'])
  (ho:OInts W (F 1) ov' s'.out) (ha:OLists W (F 2) av' s'.arrays) (hv:OInts W (F 3) vv' (natI s'.visits)) (hc:OInts W (F 5) cv' s'.cells) (hs:s'.vals=s.vals):MachP base bs fuel (W.setCell ⟨bm,i,none⟩ v) bm s' o' ov' av' vv' cv' mv m F:=by
 have hoff:=Off.set W ⟨bm,i,none⟩ v
 have hne:∀ j k,j ≠ 0 -> F j k -> ¬ Foot.one bm k:=fun j k hj hk e=>h.apart j 0 hj k hk ((h.b0 k).2 e)
 have hbx:=h.box.set i v
 rw [hb] at hbx
 exact ⟨hbx,h.b0,ho.off hoff (fun k=>hne 1 k (by omega)),ha.off OLis.nice hoff (fun k=>hne 2 k (by omega)),hv.off hoff (fun k=>hne 3 k (by omega)),h.mp.keep (hoff.block _ h.mp.lt (hne 4 _ (by omega) ((h.m4 _).2 rfl))),h.m4,by rw [hs];exact h.val,hc.off hoff (fun k=>hne 5 k (by omega)),by rw [hs];exact h.v64,h.apart,h.six,h.base⟩
def newF (F:Nat -> Foot) (i:Nat) (G:Foot) (j:Nat):Foot:=if j=i then G else F j
theorem newF_at (F:Nat -> Foot) (i:Nat) (G:Foot):newF F i G i=G:=by unfold newF;rw [if_pos rfl]
theorem newF_ne (F:Nat -> Foot) (i:Nat) (G:Foot) {j:Nat} (h:j ≠ i):newF F i G j=F j:=by unfold newF;rw [if_neg h]
theorem newF_apart {F:Nat -> Foot} {i:Nat} {G:Foot} {n:Nat} (h:∀ i j,i ≠ j -> (F i).off (F j)) (hl:∀ i k,F i k -> k < n) (hG:∀ k,G k -> F i k \/ n <= k):∀ a b,a ≠ b -> (newF F i G a).off (newF F i G b):=by
 intro a b hab k h1 h2
 unfold newF at h1 h2
 by_cases ha:a=i
 ·rw [if_pos ha] at h1
  rw [if_neg (fun e=>hab (ha.trans e.symm))] at h2
  rcases hG k h1 with h3 | h3
  ·exact h i b (fun e=>hab (ha.trans e)) k h3 h2
  ·have:=hl b k h2;omega
 ·rw [if_neg ha] at h1
  by_cases hb:b=i
  ·rw [if_pos hb] at h2
   rcases hG k h2 with h3 | h3
   ·exact h a i ha k h1 h3
   ·have:=hl a k h1;omega
  ·rw [if_neg hb] at h2
   exact h a b hab k h1 h2
theorem MachP.turn {base bs fuel:Nat} {W W' : World} {bm:Nat} {s s' : RunS} {o:OverD} {ov av vv cv:Value} {mv:Nat} {m m' : List (Int × Value)} {F:Nat -> Foot} (h:MachP base bs fuel W bm s o ov av vv cv mv m F) (i:Nat) (hi:i < 6) (h0:i ≠ 0) {G:Foot} (ho:Off (F i) W W') (hG:∀ k,G k -> F i k \/ W.heap.size <= k) (hB:base <= W.heap.size) (h4:i=4 -> ∀ k,G k ↔ k=mv)
  (hst:s'.steps=s.steps/\s'.checks=s.checks)
  (h1:if i=1 then OInts W' G ov s'.out else s'.out=s.out) (h2:if i=2 then OLists W' G av s'.arrays else s'.arrays=s.arrays) (h3:if i=3 then OInts W' G vv (natI s'.visits) else s'.visits=s.visits) (h5:if i=5 then OInts W' G cv s'.cells else s'.cells=s.cells)
  (hm:if i=4 then IMap W' mv m' /\ (∀ id,(mget m' id).getD (.int .i64 0) = .int .i64 (s'.vals id))/\(∀ id,In64 (s'.vals id)) else m' = m/\s'.vals=s.vals):MachP base bs fuel W' bm s' o ov av vv cv mv m' (newF F i G):=by
 have hne:∀ j,j ≠ i -> (F j).off (F i):=fun j hj=>h.apart j i hj
 refine ⟨by rw [hst.1,hst.2];exact h.box.off ho (fun e=>h.apart 0 i (Ne.symm h0) _ ((h.b0 _).2 rfl) e),by rw [newF_ne F i G (Ne.symm h0)];exact h.b0, ?_, ?_, ?_, ?_, ?_, ?_, ?_, ?_,newF_apart h.apart (fun _ _ hk=>h.lt hk) hG, ?_, ?_⟩
 ·by_cases e:i=1
  ·rw [if_pos e] at h1;subst e;rw [newF_at];exact h1
  ·rw [if_neg e] at h1;rw [newF_ne F i G (Ne.symm e),h1];exact h.out.off ho (hne 1 (Ne.symm e))
 ·by_cases e:i=2
  ·rw [if_pos e] at h2;subst e;rw [newF_at];exact h2
  ·rw [if_neg e] at h2;rw [newF_ne F i G (Ne.symm e),h2];exact h.arr.off OLis.nice ho (hne 2 (Ne.symm e))
 ·by_cases e:i=3
  ·rw [if_pos e] at h3;subst e;rw [newF_at];exact h3
  ·rw [if_neg e] at h3;rw [newF_ne F i G (Ne.symm e),h3];exact h.vis.off ho (hne 3 (Ne.symm e))
 ·by_cases e:i=4
  ·rw [if_pos e] at hm;exact hm.1
  ·rw [if_neg e] at hm;rw [hm.1];exact h.mp.keep (ho.block _ h.mp.lt (fun hk=>h.apart 4 i (Ne.symm e) _ ((h.m4 _).2 rfl) hk))
 ·by_cases e:i=4
  ·subst e;rw [newF_at];exact h4 rfl
  ·rw [newF_ne F i G (Ne.symm e)];exact h.m4
 ·by_cases e:i=4
  ·rw [if_pos e] at hm;exact hm.2.1
  ·rw [if_neg e] at hm;rw [hm.1,hm.2];exact h.val
 ·by_cases e:i=5
  ·rw [if_pos e] at h5;subst e;rw [newF_at];exact h5
  ·rw [if_neg e] at h5;rw [newF_ne F i G (Ne.symm e),h5];exact h.cel.off ho (hne 5 (Ne.symm e))
 ·by_cases e:i=4
  ·rw [if_pos e] at hm;exact hm.2.2
  ·rw [if_neg e] at hm;rw [hm.2];exact h.v64
 ·intro j k hk
  unfold newF at hk
  by_cases e:j=i
  ·omega
  ·rw [if_neg e] at hk;exact h.six j k hk
 ·intro j k hk
  unfold newF at hk
  by_cases e:j=i
  ·rw [if_pos e] at hk
   rcases hG k hk with h9 | h9
   ·exact h.base i k h9
   ·omega
  ·rw [if_neg e] at hk;exact h.base j k hk
def Mach (base bs fuel:Nat) (W:World) (bm:Nat) (D:Foot) (s:RunS):Prop := ∃ (ov av vv cv:Value) (mv:Nat) (m:List (Int × Value)) (F:Nat -> Foot),MachP base bs fuel W bm s ⟨0,0,0⟩ ov av vv cv mv m F /\ ∀ k,D k ↔ ∃ i,F i k
theorem MachP.mach {base bs fuel:Nat} {W:World} {bm:Nat} {s:RunS} {ov av vv cv:Value} {mv:Nat} {m:List (Int × Value)} {F:Nat -> Foot} (h:MachP base bs fuel W bm s ⟨0,0,0⟩ ov av vv cv mv m F):Mach base bs fuel W bm (fun k => ∃ i,F i k) s:=⟨ov,av,vv,cv,mv,m,F,h,fun _=>Iff.rfl⟩
theorem Mach.lt {base bs fuel:Nat} {W:World} {bm:Nat} {D:Foot} {s:RunS} (h:Mach base bs fuel W bm D s):∀ k,D k -> k < W.heap.size:=fun k hk=>by
 obtain ⟨_,_,_,_,_,_,F,hp,hD⟩:=h
 obtain ⟨i,hi⟩:=(hD k).1 hk
 exact hp.lt hi
theorem Mach.base {base bs fuel:Nat} {W:World} {bm:Nat} {D:Foot} {s:RunS} (h:Mach base bs fuel W bm D s):∀ k,D k -> base <= k:=fun k hk=>by
 obtain ⟨_,_,_,_,_,_,F,hp,hD⟩:=h
 obtain ⟨i,hi⟩:=(hD k).1 hk
 exact hp.base i k hi
theorem Mach.keep {base bs fuel:Nat} {W W' : World} {bm:Nat} {D:Foot} {s:RunS} (h:Mach base bs fuel W bm D s) {E:Foot} (ho:Off E W W') (hE:D.off E):Mach base bs fuel W' bm D s:=by
 obtain ⟨ov,av,vv,cv,mv,m,F,hp,hD⟩:=h
 exact ⟨ov,av,vv,cv,mv,m,F,hp.keep ho (fun i k hk=>hE k ((hD k).2 ⟨i,hk⟩)),hD⟩
theorem Mach.later {base bs fuel:Nat} {W W' : World} {bm:Nat} {D:Foot} {s:RunS} (h:Mach base bs fuel W bm D s) (hb:Below W.heap.size W W'):Mach base bs fuel W' bm D s:=h.keep (Off.of_below hb Foot.none) fun _ _ h=>h
theorem Mach.alloc {base bs fuel:Nat} {W:World} {bm:Nat} {D:Foot} {s:RunS} (h:Mach base bs fuel W bm D s) (o:Obj):Mach base bs fuel (W.alloc o) bm D s:=h.later ((Below.refl _ _).alloc (Nat.le_refl _) o)
def MOk (base bs fuel:Nat) (w:World) (bm:Nat) (D:Foot) (s' : RunS) (w' : World):Prop := ∃ D',Mach base bs fuel w' bm D' s' /\ Off D w w' /\ ∀ k,D' k -> D k \/ w.heap.size <= k
theorem MOk.of {base bs fuel:Nat} {W W' : World} {bm:Nat} {s' : RunS} {ov' av' vv' cv' : Value} {mv' : Nat} {m' : List (Int × Value)} {F F' : Nat -> Foot} {D:Foot} (hD:∀ k,D k ↔ ∃ i,F i k)
  (h' : MachP base bs fuel W' bm s' ⟨0,0,0⟩ ov' av' vv' cv' mv' m' F') (ho:Off (fun k => ∃ i,F i k) W W') (hF:∀ i k,F' i k -> F i k \/ W.heap.size <= k):MOk base bs fuel W bm D s' W' :=
 ⟨_,h'.mach,ho.mono (fun k _ hk=>(hD k).2 hk),fun k ⟨i,hi⟩=>(hF i k hi).imp (fun h=>(hD k).2 ⟨i,h⟩) id⟩
theorem MOk.still {base bs fuel:Nat} {W W' : World} {bm:Nat} {s:RunS} {ov av vv cv:Value} {mv:Nat} {m:List (Int × Value)} {F:Nat -> Foot} {D:Foot} (hD:∀ k,D k ↔ ∃ i,F i k)
  (h:MachP base bs fuel W bm s ⟨0,0,0⟩ ov av vv cv mv m F) (hb:Below W.heap.size W W'):MOk base bs fuel W bm D s W':=MOk.of hD (h.later hb) (Off.of_below hb _) fun _ _ hk=>.inl hk
theorem MOk.same {base bs fuel:Nat} {w:World} {bm:Nat} {D:Foot} {s:RunS} (h:Mach base bs fuel w bm D s) {w' : World} (hb:Below w.heap.size w w'):MOk base bs fuel w bm D s w':=⟨D,h.later hb,Off.of_below hb D,fun _ h=>.inl h⟩
theorem MOk.trans {base bs fuel:Nat} {w w1 w2:World} {bm:Nat} {D D1:Foot} {s:RunS} (h1:Off D w w1) (hD:∀ k,D1 k -> D k \/ w.heap.size <= k) (h2:MOk base bs fuel w1 bm D1 s w2):MOk base bs fuel w bm D s w2:=by
 obtain ⟨D2,m2,o2,d2⟩:=h2
 refine ⟨D2,m2,Off.grow h1 o2 hD,fun k hk => ?_⟩
 rcases d2 k hk with h | h
 ·exact hD k h
 ·exact .inr (Nat.le_trans h1.size h)
def overE (o:OverD):Ending:=.panicked [{ v:=.iface 166 (.agg #[.int .i64 o.how,.int .i64 o.value,.int .i64 o.trap]),recovered:=false }]
end Go.Proofs.YtgmhnepmkaonaaaGreat
