/- Part 28. -/
import Derived.Test.YtgmhnepmkaonaaaGreatQA17
import Derived.Test.YtgmhnepmkaonaaaGreatQA27
import Derived.Test.YtgmhnepmkaonaaaGreatQA16
import Derived.Test.YtgmhnepmkaonaaaGreatQA6
import Derived.Test.YtgmhnepmkaonaaaGreatQA26
namespace Go.Proofs.YtgmhnepmkaonaaaGreat
set_option linter.unusedSimpArgs false
set_option linter.unusedVariables false
open Go.RowKit
structure Holds (bs:List Nat) (base:Nat) (W:World) (S:Foot) (K:World -> Prop):Prop where
 now:K W
 keep:∀ W1 W2,K W1 -> (∀ k,S k -> W2.heap[k]? = W1.heap[k]?) -> K W2
 lt:∀ k,S k -> k < W.heap.size
 base:∀ k,S k -> base <= k
 free:∀ k,S k -> k ∉ bs
theorem Holds.off {bs:List Nat} {base:Nat} {W W' : World} {S D:Foot} {K:World -> Prop} (h:Holds bs base W S K) (ho:Off D W W') (hn:S.off D):Holds bs base W' S K :=
 ⟨h.keep _ _ h.now fun k hk=>ho.block k (h.lt k hk) (hn k hk),h.keep,fun k hk=>Nat.lt_of_lt_of_le (h.lt k hk) ho.size,h.base,h.free⟩
theorem Holds.later {bs:List Nat} {base:Nat} {W W' : World} {S:Foot} {K:World -> Prop} (h:Holds bs base W S K) (hb:Below W.heap.size W W'):Holds bs base W' S K :=
 h.off (.of_below hb Foot.none) fun k _ hk=>hk
theorem Holds.alloc {bs:List Nat} {base:Nat} {W:World} {S:Foot} {K:World -> Prop} (h:Holds bs base W S K) (o:Obj):Holds bs base (W.alloc o) S K:=h.later ((Below.refl _ _).alloc (Nat.le_refl _) o)
theorem Holds.other {bs:List Nat} {base:Nat} {W:World} {S:Foot} {K:World -> Prop} (h:Holds bs base W S K) {p:Addr} (v:Value) (hp:p.block ∈ bs):Holds bs base (W.setCell p v) S K :=
 h.off (Off.set W p v) fun k hk he=>h.free k hk (by cases he;exact hp)
theorem Holds.more {bs:List Nat} {base:Nat} {W:World} {S:Foot} {K:World -> Prop} (h:Holds bs base W S K) {b:Nat} (hb:W.heap.size <= b):Holds (b :: bs) base W S K :=
 ⟨h.now,h.keep,h.lt,h.base,fun k hk hm=>by
  rcases List.mem_cons.1 hm with rfl | hm
  ·have:=h.lt _ hk;omega
  ·exact h.free k hk hm⟩
theorem Holds.less {bs bs' : List Nat} {base:Nat} {W:World} {S:Foot} {K:World -> Prop} (h:Holds bs base W S K) (hb:∀ b ∈ bs',b ∈ bs):Holds bs' base W S K :=
 ⟨h.now,h.keep,h.lt,h.base,fun k hk hm=>h.free k hk (hb k hm)⟩
theorem Holds.from {bs:List Nat} {base base' : Nat} {W:World} {S:Foot} {K:World -> Prop} (h:Holds bs base W S K) (hb:base' <= base):Holds bs base' W S K:=⟨h.now,h.keep,h.lt,fun k hk=>Nat.le_trans hb (h.base k hk),h.free⟩
theorem holds_nice {α : Type} {R:World -> Foot -> List Value -> α -> Prop} (hR:Nice R) {base:Nat} {W:World} {S:Foot} {cs:List Value} {x : α} (h:R W S cs x) (hf:Fresh base S):Holds [] base W S (fun W=>R W S cs x) :=
 ⟨h,fun _ _ h hk=>hR.keep h hk,hR.lt h,hf,fun _ _ hm=>by cases hm⟩
theorem holds_sl {α : Type} {R:World -> Foot -> List Value -> α -> Prop} (hR:Nice R) {base:Nat} {e:TypeId} {size:Nat} {W:World} {S:Foot} {v:Value} {xs:List α} (h:OSl R e size W S v xs) (hf:Fresh base S):Holds [] base W S (fun W=>OSl R e size W S v xs) :=
 ⟨h,fun _ _ h hk=>h.keep hR hk,h.lt,hf,fun _ _ hm=>by cases hm⟩
theorem row_box {W:World} {B n size:Nat} {ds:List Value} (h:Box W B ds.toArray) (hs:ds.length=n * size) (hn:n <= 17592186044416):Row W (.slice (some ⟨B,0,none⟩) n n) n size ds:=by
 have:=Row.of_box (n:=n) (size:=size) h (by simpa using hs) hn
 simpa using this
theorem osnoc_fin {α : Type} {R:World -> Foot -> List Value -> α -> Prop} (hR:Nice R) {e:TypeId} {size:Nat} {w w' : World} {bs:List Nat} {base:Nat} {S Fn G' : Foot} {v v' : Value} {xs:List α} {y : α} {cs ds:List Value} {G:Foot} {F:Nat -> Foot} {n:Nat} (hn:xs.length=n)
  (H:Holds bs base w S (fun W=>OSl R e size W S v xs)) (hp:OParts R e size w S v xs cs G F) (hel:R w Fn ds y) (hF:Fn.off S) (hFb:Fresh base Fn) (hbs:∀ b ∈ bs,b < base) (hbase:base <= w.heap.size)
  (ho:Off G w w') (hrow:ORow w' G' e size v' (xs.length+1) (cs ++ ds)) (hG:∀ k,G' k -> G k \/ w.heap.size <= k) :
  ∃ S',Holds bs base w' S' (fun W=>OSl R e size W S' v' (xs ++ [y]))/\(∀ k,S' k -> S k \/ Fn k \/ w.heap.size <= k)/\Off S w w' /\ ∃ g cap,v' = .slice (some ⟨g,0,none⟩) (n+1) cap:=by
 have h1:=hp.snoc hR hel hF ho hrow hG
 have h2:∀ k,(S k \/ Fn k \/ G' k) -> S k \/ Fn k \/ w.heap.size <= k:=fun k hk=>by
  rcases hk with hk | hk | hk
  ·exact .inl hk
  ·exact .inr (.inl hk)
  ·rcases hG k hk with hk | hk
   ·exact .inl (hp.inG k hk)
   ·exact .inr (.inr hk)
 refine ⟨_,⟨⟨_,_,_,h1⟩,fun _ _ h hk=>h.keep hR hk,h1.lt,fun k hk => ?_,fun k hk hm => ?_⟩,h2,ho.mono fun k _ hk=>hp.inG k hk, ?_⟩
 ·rcases h2 k hk with hk | hk | hk
  ·exact H.base k hk
  ·exact hFb k hk
  ·omega
 ·rcases h2 k hk with hk | hk | hk
  ·exact H.free k hk hm
  ·have:=hFb k hk;have:=hbs k hm;omega
  ·have:=hbs k hm;omega
 ·obtain ⟨g,cap,hv, -⟩:=hrow.addr (by omega)
  exact ⟨g,cap,by rw [<-hn];exact hv⟩
theorem wpList_osnoc {α : Type} {R:World -> Foot -> List Value -> α -> Prop} (hR:Nice R) {P:Program} {w:World} {ops:Array Oper} {rest:List Oper} {o:Oper} {a:Act} {Q:Exit -> Act -> World -> Prop} (hgd:o.guard=none) (s x:Operand) (t e:TypeId)
  (ho:o.op = .call { callee:=.builtin .append,args:=#[s,x],argTypes:=#[t,t] }) {z:Value} {size bytes:Nat} (he:Elem P t e z size bytes)
  {v:Value} {B:Nat} {ds:List Value} (hs:a.eval s=v) (hx:a.eval x = .slice (some ⟨B,0,none⟩) 1 1) {bs:List Nat} {base:Nat} {S Fn:Foot} {xs:List α} {y : α} {n:Nat} (hn:xs.length=n)
  (H:Holds bs base w S (fun W=>OSl R e size W S v xs)) (hB:Box w B ds.toArray) (hds:ds.length=size) (hel:R w Fn ds y) (hF:Fn.off S) (hFb:Fresh base Fn) (hbs:∀ b ∈ bs,b < base) (hbase:base <= w.heap.size)
  (h1:∀ u ∈ ds,u.oneCell' = true) (hlen:n+1 <= 17592186044416) (hbytes:(n+1) * bytes <= 140737488355328)
  (hK:∀ v' w' S',Holds bs base w' S' (fun W=>OSl R e size W S' v' (xs ++ [y])) -> (∀ k,S' k -> S k \/ Fn k \/ w.heap.size <= k) -> Off S w w' -> (∃ g cap,v' = .slice (some ⟨g,0,none⟩) (n+1) cap) -> wpList P ops Q rest (a.put o.dst v') w'):wpList P ops Q (o :: rest) a w:=by
 obtain ⟨cs,G,F,hp⟩:=H.now
 refine wpList_oapp hgd s x t e ho he hs hx hp.row (row_box (n:=1) hB (by omega) (by omega)) h1 (by omega) (by rw [hn];exact hbytes) fun v' w' G' r1 r2 r3 => ?_
 obtain ⟨S',k1,k2,k3,k4⟩:=osnoc_fin hR hn H hp hel hF hFb hbs hbase r3 r1 r2
 exact hK v' w' S' k1 k2 k3 k4
theorem exec_osnoc {α : Type} {R:World -> Foot -> List Value -> α -> Prop} (hR:Nice R) {P:Program} {w:World} {o:Oper} {a:Act} (s x:Operand) (t e:TypeId)
  (ho:o.op = .call { callee:=.builtin .append,args:=#[s,x],argTypes:=#[t,t] }) {z:Value} {size bytes:Nat} (he:Elem P t e z size bytes)
  {v:Value} {B:Nat} {ds:List Value} (hs:a.eval s=v) (hx:a.eval x = .slice (some ⟨B,0,none⟩) 1 1) {bs:List Nat} {base:Nat} {S Fn:Foot} {xs:List α} {y : α} {n:Nat} (hn:xs.length=n)
  (H:Holds bs base w S (fun W=>OSl R e size W S v xs)) (hB:Box w B ds.toArray) (hds:ds.length=size) (hel:R w Fn ds y) (hF:Fn.off S) (hFb:Fresh base Fn) (hbs:∀ b ∈ bs,b < base) (hbase:base <= w.heap.size)
  (h1:∀ u ∈ ds,u.oneCell' = true) (hlen:n+1 <= 17592186044416) (hbytes:(n+1) * bytes <= 140737488355328) :
  ∃ v' w' S',(execOp a.eval o).run P w = .ok (.value v') w' /\ Holds bs base w' S' (fun W=>OSl R e size W S' v' (xs ++ [y]))/\(∀ k,S' k -> S k \/ Fn k \/ w.heap.size <= k)/\Off S w w' /\ (∃ g cap,v' = .slice (some ⟨g,0,none⟩) (n+1) cap):=by
 obtain ⟨cs,G,F,hp⟩:=H.now
 obtain ⟨v',w',G',hrun,r1,r2,r3, -⟩:=exec_oapp s x t e ho he hs hx hp.row (row_box (n:=1) hB (by omega) (by omega)) h1 (by omega) (by rw [hn];exact hbytes)
 obtain ⟨S',k1,k2,k3,k4⟩:=osnoc_fin hR hn H hp hel hF hFb hbs hbase r3 r1 r2
 exact ⟨v',w',S',hrun,k1,k2,k3,k4⟩
theorem OInts.addr {W:World} {S:Foot} {v:Value} {xs:List Int} (h:OInts W S v xs) {i:Nat} {x:Int} (hi:xs[i]? = some x) :
  ∃ g cap,v = .slice (some ⟨g,0,none⟩) xs.length cap/\S g/\g < W.heap.size/\W.cell? ⟨g,i,none⟩=some (.int .i64 x)/\(∀ o,W.frozen? ⟨g,o,none⟩=false) /\ ∀ y,In64 y -> OInts (W.setCell ⟨g,i,none⟩ (.int .i64 y)) S v (xs.set i y):=by
 have hil:=(List.getElem?_eq_some_iff.1 hi).1
 obtain ⟨g,cap,hv,hG, -, -,hgl,hcell,hfr⟩:=h.1.addr (by omega)
 exact ⟨g,cap,hv,hG,hgl,hcell i _ (by rw [List.getElem?_map,hi];rfl),hfr,fun y hy=>h.set hv hil hy⟩
theorem getD_some {α : Type} {l:List α} {i:Nat} {x d : α} (h:l[i]? = some x):l.getD i d=x:=by rw [List.getD_eq_getElem?_getD,h];rfl
theorem Off.grow {S S' : Foot} {A B C:World} (h:Off S A B) (k:Off S' B C) (hs:∀ q,S' q -> S q \/ A.heap.size <= q):Off S A C :=
 ⟨k.os.trans h.os,k.tape.trans h.tape,k.output.trans h.output,Nat.le_trans h.size k.size,fun i hi hn=>(k.block i (Nat.lt_of_lt_of_le hi h.size) fun hm=>(hs i hm).elim hn (fun h=>by omega)).trans (h.block i hi hn)⟩
theorem OInts.narrow {W:World} {S:Foot} {xs:List Int} {g cap n:Nat} (h:OInts W S (.slice (some ⟨g,0,none⟩) n cap) xs) (hn:0 < xs.length):OInts W (Foot.one g) (.slice (some ⟨g,0,none⟩) n cap) xs/\S g:=by
 obtain ⟨⟨h1,h2,h3,h4⟩,h5⟩:=h
 rcases h4 with ⟨h4,_⟩ | ⟨g',cap',cur,hv,hg,r⟩
 ·omega
 ·cases hv
  exact ⟨⟨⟨h1,h2,fun k hk=>by cases hk;exact h3 g hg,.inr ⟨g,cap,cur,rfl,rfl,r⟩⟩,h5⟩,hg⟩
theorem gives_iapp {w:World} {o:Oper} {a:Act} (s x:Operand)
  (ho:o.op = .call { callee:=.builtin .append,args:=#[s,x],argTypes:=#[22,22] }) {v:Value} {B:Nat} {y:Int} (hs:a.eval s=v) (hx:a.eval x = .slice (some ⟨B,0,none⟩) 1 1) {S:Foot} {xs:List Int} {n:Nat} (hn:xs.length=n)
  (H:OInts w S v xs) (hB:Box w B #[.int .i64 y]) (hy:In64 y) (hlen:n+1 <= 100000) {XF:Nat -> Foot} {i:Nat} (hX:∀ k,S k -> XF i k) :
  ∃ u w'',(execOp a.eval o).run Tryz.prog w = .ok (.value u) w'' /\ (∃ g cap,u = .slice (some ⟨g,0,none⟩) (n+1) cap/\OInts w'' (Foot.one g) u (xs ++ [y])/\(S g \/ w.heap.size <= g))/\Four.Step XF (fun _=>True) i w w'':=by
 obtain ⟨v',w',G',hrun,r1,r2,r3, -⟩:=exec_oapp (P:=Tryz.prog) s x 22 3 ho elInt hs hx H.1 (row_box (n:=1) (size:=1) (ds:=[.int .i64 y]) hB rfl (by omega)) (by intro u hu;simp at hu;subst hu;rfl) (by omega) (by omega)
 have hO:OInts w' G' v' (xs ++ [y]):=by
  refine ⟨?_,fun z hz => ?_⟩
  ·rw [List.length_append,List.map_append];exact r1
  ·rcases List.mem_append.1 hz with h | h
   ·exact H.2 z h
   ·simp at h;subst h;exact hy
 obtain ⟨g,cap,rfl,hg, -⟩:=hO.1.addr (by simp)
 have hl:(xs ++ [y]).length=n+1:=by simp [hn]
 rw [hl] at hO hrun
 obtain ⟨k1,k2⟩:=hO.narrow (by omega)
 exact ⟨_,w',hrun,⟨g,cap,rfl,k1,r2 g k2⟩,r3.mono fun k _ hk=>hX k hk,fun h=>h⟩
theorem gives_iapp2 {w:World} {o:Oper} {a:Act} (s x:Operand)
  (ho:o.op = .call { callee:=.builtin .append,args:=#[s,x],argTypes:=#[22,22] }) {v:Value} {B:Nat} {y:Int} (hs:a.eval s=v) (hx:a.eval x = .slice (some ⟨B,0,none⟩) 1 1) {S:Foot} {xs:List Int} {n:Nat} (hn:xs.length=n)
  (H:OInts w S v xs) (hB:Box w B #[.int .i64 y]) (hy:In64 y) (hlen:n+1 <= 100000) {XF:Nat -> Foot} {i:Nat} (hX:∀ k,S k -> XF i k) {Z:Value -> World -> Prop}
  (hZ:∀ g cap w'',OInts w'' (Foot.one g) (.slice (some ⟨g,0,none⟩) (n+1) cap) (xs ++ [y]) -> (S g \/ w.heap.size <= g) -> Z (.slice (some ⟨g,0,none⟩) (n+1) cap) w'') :
  ∃ u w'',(execOp a.eval o).run Tryz.prog w = .ok (.value u) w'' /\ Z u w'' /\ Four.Step XF (fun _=>True) i w w'':=by
 obtain ⟨u,w'',h1,⟨g,c,e,h2,h3⟩,h4⟩:=gives_iapp (XF:=XF) (i:=i) s x ho hs hx hn H hB hy hlen hX
 subst e
 exact ⟨_,w'',h1,hZ g c w'' h2 h3,h4⟩
theorem Off.cell {S:Foot} {W W' : World} (h:Off S W W') {b o:Nat} (hl:b < W.heap.size) (hn:¬ S b):W'.cell? ⟨b,o,none⟩=W.cell? ⟨b,o,none⟩:=World.cell?_of_block (w:=W) (a:=⟨b,o,none⟩) (h.block b hl hn)
def putAll (A:Array Value):Nat -> List Value -> Array Value
 | _,[]=>A
 | o,v :: r=>putAll (A.setIfInBounds o v) (o+1) r
theorem putAll_size:∀ (vs:List Value) (A:Array Value) (o:Nat),(putAll A o vs).size=A.size
 | [],_,_=>rfl
 | v :: r,A,o=>by rw [putAll,putAll_size r];simp
theorem putAll_at:∀ (vs:List Value) (A:Array Value) (o k:Nat),(putAll A o vs)[k]? = if k < A.size then (if o <= k/\k < o+vs.length then vs[k - o]? else A[k]?) else none
 | [],A,o,k=>by
  rw [putAll]
  by_cases h:k < A.size
  ·rw [if_pos h,if_neg (by rw [List.length_nil];omega)]
  ·rw [if_neg h,Array.getElem?_eq_none (by omega)]
 | v :: r,A,o,k=>by
  rw [putAll,putAll_at r,Array.size_setIfInBounds]
  by_cases h:k < A.size
  ·rw [if_pos h,if_pos h]
   by_cases e:k=o
   ·subst e
    rw [if_neg (by omega),if_pos (by simp),Nat.sub_self]
    simp [h]
   ·rw [Array.getElem?_setIfInBounds_ne (Ne.symm e)]
    by_cases h2:o+1 <= k/\k < o+1+r.length
    ·rw [if_pos h2,if_pos (by rw [List.length_cons];omega),show k - o=(k - (o+1))+1 by omega,List.getElem?_cons_succ]
    ·rw [if_neg h2,if_neg (by rw [List.length_cons];omega)]
  ·rw [if_neg h,if_neg h]
theorem putAll_in {vs:List Value} {A:Array Value} {o k:Nat} (h1:k < A.size) (h2:o <= k) (h3:k < o+vs.length):(putAll A o vs)[k]? = vs[k - o]?:=by rw [putAll_at,if_pos h1,if_pos ⟨h2,h3⟩]
theorem putAll_out {vs:List Value} {A:Array Value} {o k:Nat} (h:k < o \/ o+vs.length <= k):(putAll A o vs)[k]? = A[k]?:=by
 rw [putAll_at]
 by_cases h1:k < A.size
 ·rw [if_pos h1,if_neg (by omega)]
 ·rw [if_neg h1,Array.getElem?_eq_none (by omega)]
theorem heap_setCells (b:Nat) {e:TypeId} {z:Nat × Nat}:∀ (vs:List Value) (o:Nat) (w:World) (A:Array Value),w.heap[b]? = some (.cells A e z) -> (w.setCells b o vs).heap[b]? = some (.cells (putAll A o vs) e z)
 | [],_,_,_,h=>h
 | v :: r,o,w,A,h=>by
  rw [World.setCells,putAll]
  refine heap_setCells b r (o+1) _ _ ?_
  have hlt:=(Array.getElem?_eq_some_iff.1 h).1
  have hk:=(Array.getElem?_eq_some_iff.1 h).2
  show (w.heap.modify b _)[b]? = _
  rw [Array.getElem?_eq_getElem (by rw [Array.size_modify];exact hlt),Array.getElem_modify_self,hk]
  rfl
theorem off_setCells (b:Nat):∀ (vs:List Value) (o:Nat) (w:World),Off (Foot.one b) w (w.setCells b o vs)
 | [],_,w=>Off.refl _ _
 | v :: r,o,w=>by
  rw [World.setCells]
  exact (Off.set w ⟨b,o,none⟩ v).trans (off_setCells b r (o+1) _)
def insI (xs:List Int) (i:Nat) (x:Int):List Int:=xs.take i ++ x :: xs.drop i
theorem insI_len {xs:List Int} {i:Nat} {x:Int} (h:i <= xs.length):(insI xs i x).length=xs.length+1:=by
 unfold insI
 rw [List.length_append,List.length_take,List.length_cons,List.length_drop]
 omega
theorem oints_row {W:World} {g n cap:Nat} {A:Array Value} {ys:List Int} (hh:W.heap[g]? = some (.cells A 3 (0,0))) (hn:ys.length=n) (hb:n <= 17592186044416) (hc:n <= cap) (hm:cap <= maxLen) (hs:A.size=cap) (h64:∀ y ∈ ys,In64 y)
  (hA:∀ (k:Nat) (y:Int),ys[k]? = some y -> A[k]? = some (Value.int .i64 y)):OInts W (Foot.one g) (.slice (some ⟨g,0,none⟩) n cap) ys:=by
 subst hn
 have hlt:=(Array.getElem?_eq_some_iff.1 hh).1
 refine ⟨⟨by simp,hb,fun k hk=>by cases hk;exact hlt,.inr ⟨g,cap,A,rfl,rfl,hh,hc,hm,by rw [hs,Nat.mul_one], ?_⟩⟩,h64⟩
 apply List.ext_getElem?
 intro k
 rw [List.getElem?_take,Nat.mul_one,List.getElem?_map]
 by_cases hk:k < ys.length
 ·rw [if_pos hk,List.getElem?_eq_getElem hk,Option.map_some,Array.getElem?_toList]
  exact hA k _ (List.getElem?_eq_getElem hk)
 ·rw [if_neg hk,List.getElem?_eq_none (by omega)];rfl
def InsR (w:World) (S:Foot) (xs:List Int) (i:Nat) (x:Int) (e:Ending) (w' : World):Prop :=
 ∃ g cap,e = .returned (.slice (some ⟨g,0,none⟩) (xs.length+1) cap)/\OInts w' (Foot.one g) (.slice (some ⟨g,0,none⟩) (xs.length+1) cap) (insI xs i x)/\(S g \/ w.heap.size <= g)/\Off S w w'
theorem insI_at {xs:List Int} {i k:Nat} {x y:Int} (hi:i <= xs.length) (h:(insI xs i x)[k]? = some y):(k < i/\xs[k]? = some y) \/ (k=i/\y=x) \/ (i < k/\xs[k - 1]? = some y):=by
 unfold insI at h
 by_cases h1:k < i
 ·rw [List.getElem?_append_left (by rw [List.length_take];omega),List.getElem?_take,if_pos h1] at h
  exact .inl ⟨h1,h⟩
 ·rw [List.getElem?_append_right (by rw [List.length_take];omega),List.length_take,Nat.min_eq_left hi] at h
  by_cases h2:k=i
  ·subst h2
   rw [Nat.sub_self] at h
   simp at h
   exact .inr (.inl ⟨rfl,h.symm⟩)
  ·rw [show k - i=(k - i - 1)+1 by omega,List.getElem?_cons_succ,List.getElem?_drop,show i+(k - i - 1)=k - 1 by omega] at h
   exact .inr (.inr ⟨by omega,h⟩)
theorem insI_64 {xs:List Int} {i:Nat} {x:Int} (h:∀ y ∈ xs,In64 y) (hx:In64 x):∀ y ∈ insI xs i x,In64 y:=fun y hy=>by
 unfold insI at hy
 rcases List.mem_append.1 hy with h1 | h1
 ·exact h y (List.mem_of_mem_take h1)
 ·rcases List.mem_cons.1 h1 with rfl | h1
  ·exact hx
  ·exact h y (List.mem_of_mem_drop h1)
theorem oneCell_ints (xs:List Int):∀ v ∈ xs.map (Value.int .i64),v.oneCell' = true:=oneCell_int xs
theorem insertOwn {w:World} {v:Value} {S:Foot} {xs:List Int} {i B:Nat} {x:Int} (h:OInts w S v xs) (hi:i <= xs.length) (hx:In64 x) (hl:xs.length <= 1000000) (hB:w.heap[B]? = some (.cells #[.int .i64 x] 3 (0,0))) (hSB:¬ S B) :
  Calls Tryz.prog 150 #[v,.int .i64 i,.slice (some ⟨B,0,none⟩) 1 1] w (InsR w S xs i x):=by
 have hbl:=(Array.getElem?_eq_some_iff.1 hB).1
 have hvs:∀ j v,[Value.int .i64 x][j]? = some v -> w.cell? ⟨B,0+j,none⟩=some v:=fun j v hj=>by
  simp only [World.cell?,hB,Nat.zero_add]
  simpa using hj
 have h1v:∀ v ∈ [Value.int .i64 x],v.oneCell' = true:=by simp [Value.oneCell']
 have hlx:(xs.map (Value.int .i64)).length=xs.length:=List.length_map ..
 have h64:=insI_64 (i:=i) h.2 hx
 have hil:(insI xs i x).length=xs.length+1:=insI_len hi
 have hbyt:∀ n:Nat,n=xs.length+1 -> n * 8 <= 140737488355328:=fun n h=>by omega
 rcases h.1.form with ⟨h0,a,rfl⟩ | ⟨g,cap,cur,rfl,hg,hh,k1,k2,k3,k4⟩
 ·have e:xs=[]:=List.eq_nil_of_length_eq_zero h0
  subst e
  obtain rfl:i=0:=by simpa using hi
  have hfin:∀ {e:Ending} {w' : World},(e = .returned (.slice (some ⟨w.heap.size,0,none⟩) (0+1) (grownCap w (0+1) 0 3)) /\
    w' = w.drew.alloc (.cells (([] ++ [Value.int .i64 x]).toArray ++ Builtin.zeroCells (Value.int .i64 0).cells (grownCap w (0+1) 0 3 - (0+1))) 3)) -> InsR w S [] 0 x e w':=fun {e w'} ⟨h1,h2⟩=>by
   obtain ⟨G,hG⟩ : ∃ G,G=grownCap w (0+1) 0 3:=⟨_,rfl⟩
   have hG1:0+1 <= G:=by rw [hG];exact grownCap_ge w _ _ _
   have hG2:G <= maxLen:=by rw [hG];exact grownCap_le_maxLen w _ _ _ (by unfold maxLen;omega)
   rw [<-hG] at h1 h2
   refine ⟨w.heap.size,G,h1, ?_,.inr (Nat.le_refl _),by rw [h2];exact (Off.of_below (Below.refl _ w).drew _).trans (Off.alloc _ _ _)⟩
   refine oints_row (A:=([] ++ [Value.int .i64 x]).toArray ++ Builtin.zeroCells (Value.int .i64 0).cells (G - (0+1))) ?_ (by simpa using hil) (by simp) (by simpa using hG1) hG2 (by simp [Builtin.zeroCells,Value.cells];omega) h64 fun k y hk => ?_
   ·rw [h2]
    show (w.heap.push _)[w.heap.size]? = _
    rw [Array.getElem?_push_size]
   ·have hk0:k=0:=by have:=(List.getElem?_eq_some_iff.1 hk).1;rw [hil] at this;simp at this;omega
    subst hk0
    have hy:x=y:=by simpa [insI] using hk
    subst hy
    rw [Array.getElem?_append_left (by simp)]
    rfl
  cases a with
  | none =>
   have hc:=Any2.slices_Insert_int_end_grow insertLays none 0 0 B 0 1 1 [] [.int .i64 x] w (by omega) (Nat.le_refl _) (by omega) (by omega) rfl rfl (fun _=>rfl) (fun _ h=>by cases h) hvs h1v
   exact hc.mono fun e w' hq=>hfin hq
  | some ad =>
   have hc:=Any2.slices_Insert_int_end_grow insertLays (some ad) 0 0 B 0 1 1 [] [.int .i64 x] w (by omega) (Nat.le_refl _) (by omega) (by omega) rfl rfl (fun h=>by cases h) (fun a _ j v hj=>by simp at hj) hvs h1v
   exact hc.mono fun e w' hq=>hfin hq
 ·have hgl:=h.1.lt g hg
  have hne:B ≠ g:=fun e=>hSB (by rw [e];exact hg)
  have hcur:∀ j,j < xs.length -> cur[j]? = (xs.map (Value.int .i64))[j]?:=fun j hj=>by
   rw [<-k4,List.getElem?_take,if_pos (by omega),Array.getElem?_toList]
  have hcell:∀ j,w.cell? ⟨g,0+j,none⟩=cur[j]?:=fun j=>by simp [World.cell?,hh]
  have hfz:∀ o,w.frozen? ⟨g,o,none⟩=false:=fun o=>by simp [World.frozen?,hh]
  have hcs:∀ j v,(xs.map (Value.int .i64))[j]? = some v -> w.cell? ⟨g,0+j,none⟩=some v:=fun j v hj=>by
   have hjl:=(List.getElem?_eq_some_iff.1 hj).1
   rw [hcell,hcur j (by omega),hj]
  have hOff:∀ {w'},Off (Foot.one g) w w' -> Off S w w':=fun ho=>ho.mono fun k _ hk=>by cases hk;exact hg
  by_cases hroom:xs.length+1 <= cap
  ·have hsp:∀ j,j < xs.length+1 -> (w.cell? ⟨g,0+j,none⟩).isSome=true:=fun j hj=>by
    rw [hcell,Array.getElem?_eq_getElem (by omega)];rfl
   by_cases hin:i < xs.length
   ·have hc:=Any2.slices_Insert_int_shift insertLays g 0 xs.length cap i B 0 1 1 (xs.map (.int .i64)) [.int .i64 x] w hin (by omega) hroom (by unfold maxLen at k2;omega) hne hlx rfl hcs hsp (fun j _=>hfz _) hvs (oneCell_ints xs) h1v
     3 3 1 cur.size (by simp [World.shape?,hB]) (by simp [World.shape?,hh]) (by omega) (by simp [World.frozen?,hB]) (by simp [World.frozen?,hB])
    refine hc.mono fun e w' ⟨h1,h2⟩=>⟨g,cap,h1, ?_,.inl hg, ?_⟩
    ·have hd:w.drew.heap[g]? = some (.cells cur 3 (0,0)):=hh
     have q:=heap_setCells g [Value.int .i64 x] (0+i) _ _ (heap_setCells g ((xs.map (Value.int .i64)).drop i) (0+(i+1)) _ _ hd)
     rw [<-h2] at q
     refine oints_row q hil (by omega) hroom k2 (by rw [putAll_size,putAll_size,k3,Nat.mul_one]) h64 fun k y hk => ?_
     have hkl:=(List.getElem?_eq_some_iff.1 hk).1
     rw [hil] at hkl
     have hd1:((xs.map (Value.int .i64)).drop i).length=xs.length - i:=by rw [List.length_drop,hlx]
     rcases insI_at hi hk with ⟨e1,e2⟩ | ⟨e1,e2⟩ | ⟨e1,e2⟩
     ·rw [putAll_out (.inl (by omega)),putAll_out (.inl (by omega)),hcur k (by omega),List.getElem?_map,e2];rfl
     ·subst e1 e2
      rw [putAll_in (by rw [putAll_size];omega) (by omega) (by simp),Nat.zero_add,Nat.sub_self];rfl
     ·rw [putAll_out (.inr (by simp;omega)),putAll_in (by omega) (by omega) (by rw [hd1];omega),List.getElem?_drop,show i+(k - (0+(i+1)))=k - 1 by omega,List.getElem?_map,e2];rfl
    ·rw [h2]
     exact hOff ((Off.of_below (Below.refl _ w).drew _).trans ((off_setCells g _ _ _).trans (off_setCells g _ _ _)))
   ·obtain rfl:i=xs.length:=by omega
    have hc:=Any2.slices_Insert_int_end_room insertLays g 0 xs.length cap B 0 1 1 [.int .i64 x] w (by omega) hroom (by unfold maxLen at k2;omega) rfl (fun j hj=>by rw [Nat.zero_add];have:=hsp (xs.length+j) (by omega);rwa [Nat.zero_add] at this) (fun j _=>hfz _) hvs h1v
    refine hc.mono fun e w' ⟨h1,h2⟩=>⟨g,cap,h1, ?_,.inl hg, ?_⟩
    ·have q:=heap_setCells g [Value.int .i64 x] (0+xs.length) _ _ hh
     rw [<-h2] at q
     refine oints_row q hil (by omega) hroom k2 (by rw [putAll_size,k3,Nat.mul_one]) h64 fun k y hk => ?_
     have hkl:=(List.getElem?_eq_some_iff.1 hk).1
     rw [hil] at hkl
     rcases insI_at (Nat.le_refl _) hk with ⟨e1,e2⟩ | ⟨e1,e2⟩ | ⟨e1,e2⟩
     ·rw [putAll_out (.inl (by omega)),hcur k (by omega),List.getElem?_map,e2];rfl
     ·subst e1 e2
      rw [putAll_in (by omega) (by omega) (by simp),Nat.zero_add,Nat.sub_self];rfl
     ·omega
    ·rw [h2]
     exact hOff (off_setCells g _ _ _)
  ·have hfresh:∀ {A:Array Value} {n:Nat},(w.drew.alloc (.cells A 3)).heap[w.heap.size]? = some (.cells A 3 (0,0)):=fun {A n}=>by
    show (w.heap.push _)[w.heap.size]? = _
    rw [Array.getElem?_push_size]
   obtain ⟨G,hG⟩ : ∃ G,G=grownCap w (xs.length+1) cap 3:=⟨_,rfl⟩
   have hG1:xs.length+1 <= G:=by rw [hG];exact grownCap_ge w _ _ _
   have hG2:G <= maxLen:=by rw [hG];exact grownCap_le_maxLen w _ _ _ (by unfold maxLen;omega)
   by_cases hin:i < xs.length
   ·have hc:=Any2.slices_Insert_int_grow insertLays g 0 xs.length cap i B 0 1 1 (xs.map (.int .i64)) [.int .i64 x] w hin (by omega) k1 (by omega) (by omega) hlx rfl hcs hvs (oneCell_ints xs) h1v
    refine hc.mono fun e w' ⟨h1,h2⟩ => ?_
    have h1' : e = .returned (.slice (some ⟨w.heap.size,0,none⟩) (xs.length+1) G):=by rw [hG];exact h1
    refine ⟨w.heap.size,G,h1', ?_,.inr (Nat.le_refl _), ?_⟩
    ·obtain ⟨A,hA⟩ : ∃ A:Array Value,A=((xs.map (Value.int .i64)).take i).toArray ++ Builtin.zeroCells (Value.int .i64 0).cells (xs.length+1 - i) ++ Builtin.zeroCells (Value.int .i64 0).cells (G - (xs.length+1)):=⟨_,rfl⟩
     have hAs:A.size=G:=by rw [hA];simp [Builtin.zeroCells,Value.cells];omega
     have hd:(((w.alloc (.cells A 3)).drew).heap)[w.heap.size]? = some (.cells A 3 (0,0)):=by
      show (w.heap.push _)[w.heap.size]? = _
      rw [Array.getElem?_push_size]
     have q1:=heap_setCells w.heap.size [Value.int .i64 x] i _ _ hd
     have q1' : (((w.alloc (.cells A 3)).drew.setCells w.heap.size i [Value.int .i64 x]).drew).heap[w.heap.size]? = some (.cells (putAll A i [Value.int .i64 x]) 3 (0,0)):=q1
     have q:=heap_setCells w.heap.size ((xs.map (Value.int .i64)).drop i) (i+1) _ _ q1'
     have q2:w'.heap[w.heap.size]? = some (.cells (putAll (putAll A i [Value.int .i64 x]) (i+1) ((xs.map (Value.int .i64)).drop i)) 3 (0,0)):=by
      rw [h2]
      rw [hA,hG] at q
      rw [hA,hG]
      exact q
     refine oints_row q2 hil (by omega) hG1 hG2 (by rw [putAll_size,putAll_size,hAs]) h64 fun k y hk => ?_
     have hkl:=(List.getElem?_eq_some_iff.1 hk).1
     rw [hil] at hkl
     have hd1:((xs.map (Value.int .i64)).drop i).length=xs.length - i:=by rw [List.length_drop,hlx]
     rcases insI_at hi hk with ⟨e1,e2⟩ | ⟨e1,e2⟩ | ⟨e1,e2⟩
     ·have hx2:A[k]? = some (Value.int .i64 y):=by
       rw [hA,Array.append_assoc,Array.getElem?_append_left (by simp;omega)]
       simp [e1,e2]
      rw [putAll_out (.inl (by omega)),putAll_out (.inl (by omega)),hx2]
     ·subst e1 e2
      rw [putAll_out (.inl (by omega)),putAll_in (by omega) (by omega) (by simp),Nat.sub_self];rfl
     ·rw [putAll_in (by rw [putAll_size];omega) (by omega) (by rw [hd1];omega),List.getElem?_drop,show i+(k - (i+1))=k - 1 by omega,List.getElem?_map,e2];rfl
    ·rw [h2]
     have hz:∀ q,Foot.one w.heap.size q -> S q \/ w.heap.size <= q:=fun q hq=>by cases hq;exact .inr (Nat.le_refl _)
     exact Off.grow ((Off.grow ((Off.alloc S w _).trans (Off.of_below (Below.refl _ _).drew S)) (off_setCells w.heap.size _ _ _) hz).trans (Off.of_below (Below.refl _ _).drew S)) (off_setCells w.heap.size _ _ _) hz
   ·obtain rfl:i=xs.length:=by omega
    have hc:=Any2.slices_Insert_int_end_grow insertLays (some ⟨g,0,none⟩) xs.length cap B 0 1 1 (xs.map (.int .i64)) [.int .i64 x] w (by omega) k1 (by omega) (by omega) hlx rfl (fun h=>by cases h) (fun a ha j v hj=>by cases ha;rw [Addr.add_lit];exact hcs j v hj) hvs h1v
    refine hc.mono fun e w' ⟨h1,h2⟩ => ?_
    have h1' : e = .returned (.slice (some ⟨w.heap.size,0,none⟩) (xs.length+1) G):=by rw [hG];exact h1
    refine ⟨w.heap.size,G,h1', ?_,.inr (Nat.le_refl _),by rw [h2];exact (Off.of_below (Below.refl _ w).drew _).trans (Off.alloc _ _ _)⟩
    have q:w'.heap[w.heap.size]? = some (.cells ((xs.map (Value.int .i64) ++ [Value.int .i64 x]).toArray ++ Builtin.zeroCells (Value.int .i64 0).cells (G - (xs.length+1))) 3 (0,0)):=by
     rw [h2,hG]
     show (w.heap.push _)[w.heap.size]? = _
     rw [Array.getElem?_push_size]
     rfl
    refine oints_row q hil (by omega) hG1 hG2 (by simp [Builtin.zeroCells,Value.cells];omega) h64 fun k y hk => ?_
    have hkl:=(List.getElem?_eq_some_iff.1 hk).1
    rw [hil] at hkl
    rw [Array.getElem?_append_left (by simp;omega)]
    rcases insI_at (Nat.le_refl _) hk with ⟨e1,e2⟩ | ⟨e1,e2⟩ | ⟨e1,e2⟩
    ·rw [List.getElem?_toArray,List.getElem?_append_left (by rw [hlx];exact e1),List.getElem?_map,e2];rfl
    ·subst e1 e2
     rw [List.getElem?_toArray,List.getElem?_append_right (by rw [hlx];exact Nat.le_refl _),hlx,Nat.sub_self];rfl
    ·omega
end Go.Proofs.YtgmhnepmkaonaaaGreat
