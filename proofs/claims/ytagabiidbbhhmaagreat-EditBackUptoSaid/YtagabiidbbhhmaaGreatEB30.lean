/- Part 30. -/
import Derived.Test.YtagabiidbbhhmaaGreatEB29
namespace Go.Proofs.YtagabiidbbhhmaaGreat
set_option linter.all false
open Go.RowKit
theorem pO {α : Type} (l:List α) (k:Nat) (x : α) (h:l[k]? = some x):l.take (k+1)=l.take k ++ [x]:=by
 rw [cU,h];rfl
structure Holds (bs:List Nat) (base:Nat) (W:World) (S:Foot) (K:World -> Prop):Prop where
 now:K W
 keep:∀ W1 W2,K W1 -> (∀ k,S k -> W2.heap[k]? = W1.heap[k]?) -> K W2
 lt:∀ k,S k -> k < W.heap.size
 base:∀ k,S k -> base <= k
 free:∀ k,S k -> k ∉ bs
theorem Holds.off {bs:List Nat} {base:Nat} {W W' : World} {S D:Foot} {K:World -> Prop} (h:Holds bs base W S K) (ho:Off D W W') (hn:S.off D):Holds bs base W' S K :=
 ⟨h.keep _ _ h.now fun k hk=>ho.block k (h.lt k hk) (hn k hk),h.keep,fun k hk=>bA (h.lt k hk) ho.size,h.base,h.free⟩
theorem Holds.later {bs:List Nat} {base:Nat} {W W' : World} {S:Foot} {K:World -> Prop} (h:Holds bs base W S K) (hb:Below W.heap.size W W'):Holds bs base W' S K :=
 h.off (.of_below hb Foot.none) fun k _ hk=>hk
theorem Holds.alloc {bs:List Nat} {base:Nat} {W:World} {S:Foot} {K:World -> Prop} (h:Holds bs base W S K) (o:Obj):Holds bs base (W.alloc o) S K:=h.later ((Below.refl _ _).alloc (aA _) o)
theorem Holds.other {bs:List Nat} {base:Nat} {W:World} {S:Foot} {K:World -> Prop} (h:Holds bs base W S K) {p:Addr} (v:Value) (hp:p.block ∈ bs):Holds bs base (W.setCell p v) S K :=
 h.off (Off.set W p v) fun k hk he=>h.free k hk (by cases he;exact hp)
theorem Holds.more {bs:List Nat} {base:Nat} {W:World} {S:Foot} {K:World -> Prop} (h:Holds bs base W S K) {b:Nat} (hb:W.heap.size <= b):Holds (b :: bs) base W S K :=
 ⟨h.now,h.keep,h.lt,h.base,fun k hk hm=>by
  rcases bP.1 hm with rfl | hm
  ·have:=h.lt _ hk;omega
  exact h.free k hk hm⟩
theorem Holds.less {bs bs' : List Nat} {base:Nat} {W:World} {S:Foot} {K:World -> Prop} (h:Holds bs base W S K) (hb:∀ b ∈ bs',b ∈ bs):Holds bs' base W S K :=
 ⟨h.now,h.keep,h.lt,h.base,fun k hk hm=>h.free k hk (hb k hm)⟩
theorem Holds.low {bs bs' : List Nat} {base:Nat} {W:World} {S:Foot} {K:World -> Prop} (h:Holds bs base W S K) (hb:∀ b ∈ bs',b < base):Holds bs' base W S K :=
 ⟨h.now,h.keep,h.lt,h.base,fun k hk hm=>by have:=hb k hm;have:=h.base k hk;omega⟩
theorem Holds.from {bs:List Nat} {base base' : Nat} {W:World} {S:Foot} {K:World -> Prop} (h:Holds bs base W S K) (hb:base' <= base):Holds bs base' W S K:=⟨h.now,h.keep,h.lt,fun k hk=>bI hb (h.base k hk),h.free⟩
theorem iF {base:Nat} {W:World} {S:Foot} {v:Value} {xs:List Int} (h:eV W S v xs) (hf:mK base S):Holds [] base W S (fun W=>eV W S v xs) :=
 ⟨h,fun _ _ h hk=>h.keep hk,h.lt,hf,fun _ _ hm=>by cases hm⟩
theorem lP {α : Type} {R:World -> Foot -> List Value -> α -> Prop} (hR:Nice R) {base:Nat} {W:World} {S:Foot} {cs:List Value} {x : α} (h:R W S cs x) (hf:mK base S):Holds [] base W S (fun W=>R W S cs x) :=
 ⟨h,fun _ _ h hk=>hR.keep h hk,hR.lt h,hf,fun _ _ hm=>by cases hm⟩
theorem mY {α : Type} {R:World -> Foot -> List Value -> α -> Prop} (hR:Nice R) {base:Nat} {e:TypeId} {size:Nat} {W:World} {S:Foot} {v:Value} {xs:List α} (h:OSl R e size W S v xs) (hf:mK base S):Holds [] base W S (fun W=>OSl R e size W S v xs) :=
 ⟨h,fun _ _ h hk=>h.keep hR hk,h.lt,hf,fun _ _ hm=>by cases hm⟩
theorem kE {base:Nat} {W:World} {S:Foot} {v:Value} {f:FuncD} (h:OFunc W S v f) (hf:mK base S):Holds [] base W S (fun W=>OFunc W S v f) :=
 ⟨h,fun _ _ h hk=>h.keep hk,h.lt,hf,fun _ _ hm=>by cases hm⟩
theorem aER {W:World} {B n size:Nat} {ds:List Value} (h:Box W B ds.toArray) (hs:ds.length=n * size) (hn:n <= 17592186044416):Row W (.slice (some ⟨B,0,none⟩) n n) n size ds:=by
 have:=Row.of_box (n:=n) (size:=size) h (by simpa using hs) hn
 simpa using this
theorem aA5 {α : Type} {R:World -> Foot -> List Value -> α -> Prop} (hR:Nice R) {e:TypeId} {size:Nat} {w w' : World} {bs:List Nat} {base:Nat} {S Fn G' : Foot} {v v' : Value} {xs:List α} {y : α} {cs ds:List Value} {G:Foot} {F:Nat -> Foot} {n:Nat} (hn:xs.length=n)
  (H:Holds bs base w S (fun W=>OSl R e size W S v xs)) (hp:OParts R e size w S v xs cs G F) (hel:R w Fn ds y) (hF:Fn.off S) (hFb:mK base Fn) (hbs:∀ b ∈ bs,b < base) (hbase:base <= w.heap.size)
  (ho:Off G w w') (hrow:ORow w' G' e size v' (xs.length+1) (cs ++ ds)) (hG:∀ k,G' k -> G k \/ w.heap.size <= k) :
  ∃ S',Holds bs base w' S' (fun W=>OSl R e size W S' v' (xs ++ [y]))/\(∀ k,S' k -> S k \/ Fn k \/ w.heap.size <= k)/\Off S w w' /\ ∃ g cap,v' = .slice (some ⟨g,0,none⟩) (n+1) cap:=by
 have h1:=hp.snoc hR hel hF ho hrow hG
 have h2:∀ k,(S k \/ Fn k \/ G' k) -> S k \/ Fn k \/ w.heap.size <= k:=fun k hk=>by
  rcases hk with hk | hk | hk
  ·exact .inl hk
  ·exact .inr (.inl hk)
  rcases hG k hk with hk | hk
  ·exact .inl (hp.inG k hk)
  exact .inr (.inr hk)
 refine ⟨_,⟨⟨_,_,_,h1⟩,fun _ _ h hk=>h.keep hR hk,h1.lt,fun k hk => ?_,fun k hk hm => ?_⟩,h2,ho.mono fun k _ hk=>hp.inG k hk, ?_⟩
 ·rcases h2 k hk with hk | hk | hk
  ·exact H.base k hk
  ·exact hFb k hk
  omega
 ·rcases h2 k hk with hk | hk | hk
  ·exact H.free k hk hm
  ·have:=hFb k hk;have:=hbs k hm;omega
  have:=hbs k hm;omega
 ·obtain ⟨g,cap,hv, -⟩:=hrow.addr (by omega)
  exact ⟨g,cap,by rw [<-hn];exact hv⟩
theorem lH {α : Type} {R:World -> Foot -> List Value -> α -> Prop} (hR:Nice R) {P:Program} {w:World} {ops:Array Oper} {rest:List Oper} {o:Oper} {a:Act} {Q:Exit -> Act -> World -> Prop} (hgd:o.guard=none) (s x:Operand) (t e:TypeId)
  (ho:o.op = .call { callee:=.builtin .append,args:=#[s,x],argTypes:=#[t,t] }) {z:Value} {size bytes:Nat} (he:Elem P t e z size bytes)
  {v:Value} {B:Nat} {ds:List Value} (hs:a.eval s=v) (hx:a.eval x = .slice (some ⟨B,0,none⟩) 1 1) {bs:List Nat} {base:Nat} {S Fn:Foot} {xs:List α} {y : α} {n:Nat} (hn:xs.length=n)
  (H:Holds bs base w S (fun W=>OSl R e size W S v xs)) (hB:Box w B ds.toArray) (hds:ds.length=size) (hel:R w Fn ds y) (hF:Fn.off S) (hFb:mK base Fn) (hbs:∀ b ∈ bs,b < base) (hbase:base <= w.heap.size)
  (h1:∀ u ∈ ds,u.oneCell' = true) (hlen:n+1 <= 17592186044416) (hbytes:(n+1) * bytes <= 140737488355328)
  (hK:∀ v' w' S',Holds bs base w' S' (fun W=>OSl R e size W S' v' (xs ++ [y])) -> (∀ k,S' k -> S k \/ Fn k \/ w.heap.size <= k) -> Off S w w' -> (∃ g cap,v' = .slice (some ⟨g,0,none⟩) (n+1) cap) -> wpList P ops Q rest (a.put o.dst v') w'):wpList P ops Q (o :: rest) a w:=by
 obtain ⟨cs,G,F,hp⟩:=H.now
 refine oN hgd s x t e ho he hs hx hp.row (aER (n:=1) hB (by omega) (by omega)) h1 (by omega) (by rw [hn];exact hbytes) fun v' w' G' r1 r2 r3 => ?_
 obtain ⟨S',k1,k2,k3,k4⟩:=aA5 hR hn H hp hel hF hFb hbs hbase r3 r1 r2
 exact hK v' w' S' k1 k2 k3 k4
theorem pre0 {ops:Array Oper} {I:World -> Prop} {i:Nat} {w w' : World} (h:Four.Pre ops (fun _=>Foot.none) I i w w'):Below w.heap.size w w':=h.1.below (aA _) fun _ _ ⟨_,_,_,h⟩=>h.elim
theorem aGB:Elem Tryz.prog 58 78 (.agg #[.int .i64 0,.int .i64 0,.slice none 0 0,.slice none 0 0]) 4 64:=lY Tryz.underlying58 (by kernel_rfl) rfl (by omega)
theorem aES:Elem Tryz.prog 59 82 (.agg #[.int .i64 0,.int .i64 0,.slice none 0 0,.int .i64 0]) 4 48:=lY Tryz.underlying59 (by kernel_rfl) rfl (by omega)
theorem aA6:Elem Tryz.prog 23 63 (.agg #[.slice none 0 0,.slice none 0 0,.int .i64 0,.int .i64 0,.slice none 0 0,.int .i64 0]) 6 96:=lY Tryz.underlying23 (by kernel_rfl) rfl (by omega)
end Go.Proofs.YtagabiidbbhhmaaGreat
