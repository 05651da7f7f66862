/- Part 17. -/
import Derived.Test.YtgmhnepmkaonaaaGreatQA16
import Derived.ArgAppend
import Derived.Lib.SliceRun
import Derived.Shelf.Slices.SearchI
import Derived.Shelf.Spec.SlicesInsertGrow
namespace Go.Proofs.YtgmhnepmkaonaaaGreat
set_option linter.unusedSimpArgs false
set_option linter.unusedVariables false
open Go.RowKit
abbrev Foot:=Nat -> Prop
def Foot.or (A B:Foot):Foot:=fun k=>A k \/ B k
def Foot.none:Foot:=fun _=>False
def Foot.one (g:Nat):Foot:=fun k=>k=g
def Foot.off (A B:Foot):Prop := ∀ k,A k -> ¬ B k
theorem Foot.off.symm {A B:Foot} (h:A.off B):B.off A:=fun k hb ha=>h k ha hb
structure Off (S:Foot) (W W' : World):Prop where
 os:W'.os=W.os
 tape:W'.tape=W.tape
 output:W'.output=W.output
 size:W.heap.size <= W'.heap.size
 block:∀ k,k < W.heap.size -> ¬ S k -> W'.heap[k]? = W.heap[k]?
theorem Off.refl (S:Foot) (W:World):Off S W W:=⟨rfl,rfl,rfl,Nat.le_refl _,fun _ _ _=>rfl⟩
theorem Off.trans {S:Foot} {A B C:World} (h:Off S A B) (k:Off S B C):Off S A C :=
 ⟨k.os.trans h.os,k.tape.trans h.tape,k.output.trans h.output,Nat.le_trans h.size k.size,fun i hi hn=>(k.block i (Nat.lt_of_lt_of_le hi h.size) hn).trans (h.block i hi hn)⟩
theorem Off.mono {S S' : Foot} {W W' : World} (h:Off S W W') (hs:∀ k,k < W.heap.size -> S k -> S' k):Off S' W W' :=
 ⟨h.os,h.tape,h.output,h.size,fun k hk hn=>h.block k hk fun hm=>hn (hs k hk hm)⟩
theorem Off.of_below {W W' : World} (h:Below W.heap.size W W') (S:Foot):Off S W W':=⟨h.os,h.tape,h.output,h.size,fun k hk _=>h.block k hk⟩
theorem Off.below {S:Foot} {W W' : World} (h:Off S W W') {base:Nat} (hb:base <= W.heap.size) (hS:∀ k,k < W.heap.size -> S k -> base <= k):Below base W W' :=
 ⟨h.os,h.tape,h.output,h.size,fun k hk=>h.block k (by omega) fun hm=>by have:=hS k (by omega) hm;omega⟩
theorem Off.set (W:World) (p:Addr) (u:Value):Off (Foot.one p.block) W (W.setCell p u) :=
 ⟨rfl,rfl,rfl,by simp [World.setCell],fun k _ hn=>Below.heap_setCell W p u k hn⟩
theorem Off.alloc (S:Foot) (W:World) (o:Obj):Off S W (W.alloc o):=.of_below ((Below.refl _ _).alloc (Nat.le_refl _) o) S
theorem Off.grown {S:Foot} {W W' : World} {row:Option Nat} (hg:W.grownBy W' row) (hS:∀ k,row=some k -> S k):Off S W W' :=
 ⟨hg.os,hg.tape,hg.output,hg.size,fun k hk hn=>hg.block k hk fun e=>hn (hS k e.symm)⟩
theorem Box.off {W W' : World} {b:Nat} {A:Array Value} (h:Box W b A) {S:Foot} (ho:Off S W W') (hn:¬ S b):Box W' b A:=by
 have hh:=ho.block b h.lt hn
 exact ⟨Nat.lt_of_lt_of_le h.lt ho.size,fun o=>(World.cell?_of_block (w:=W) (a:=⟨b,o,none⟩) hh).trans (h.cell o),fun o=>(World.frozen?_of_block (w:=W) (a:=⟨b,o,none⟩) hh).trans (h.free o)⟩
structure ORow (W:World) (G:Foot) (e:TypeId) (size:Nat) (v:Value) (n:Nat) (cs:List Value):Prop where
 len:cs.length=n * size
 big:n <= 17592186044416
 lt:∀ k,G k -> k < W.heap.size
 form:(n=0 /\ ∃ a,v = .slice a 0 0) \/ ∃ g cap cur,v = .slice (some ⟨g,0,none⟩) n cap/\G g/\W.heap[g]? = some (.cells cur e (0,0))/\n <= cap/\cap <= maxLen/\cur.size=cap * size/\cur.toList.take (n * size)=cs
theorem ORow.keep {W W' : World} {G:Foot} {e:TypeId} {size:Nat} {v:Value} {n:Nat} {cs:List Value} (h:ORow W G e size v n cs) (hk:∀ k,G k -> W'.heap[k]? = W.heap[k]?):ORow W' G e size v n cs:=by
 refine ⟨h.len,h.big,fun k hg => ?_, ?_⟩
 ·have h1:=hk k hg
  rw [Array.getElem?_eq_getElem (h.lt k hg)] at h1
  exact (Array.getElem?_eq_some_iff.1 h1).1
 ·rcases h.form with h1 | ⟨g,cap,cur,hv,hg,hh,r⟩
  ·exact .inl h1
  ·exact .inr ⟨g,cap,cur,hv,hg,(hk g hg).trans hh,r⟩
theorem ORow.wide {W:World} {G G' : Foot} {e:TypeId} {size:Nat} {v:Value} {n:Nat} {cs:List Value} (h:ORow W G e size v n cs) (hs:∀ k,G k -> G' k) (hl:∀ k,G' k -> k < W.heap.size):ORow W G' e size v n cs:=by
 refine ⟨h.len,h.big,hl, ?_⟩
 rcases h.form with h1 | ⟨g,cap,cur,hv,hg,r⟩
 ·exact .inl h1
 ·exact .inr ⟨g,cap,cur,hv,hs g hg,r⟩
theorem ORow.of_own {W:World} {base:Nat} {e:TypeId} {size:Nat} {v:Value} {n:Nat} {cs:List Value} (h:W.ownsRow base e size v n cs) (hn:n <= 17592186044416) {G:Foot} (hG:∀ k,v.ownBlock=some k -> G k) (hl:∀ k,G k -> k < W.heap.size):ORow W G e size v n cs:=by
 refine ⟨h.1,hn,hl, ?_⟩
 rcases h.2 with ⟨rfl,rfl⟩ | ⟨g,cap,cur,rfl,_,r⟩
 ·exact .inl ⟨rfl,_,rfl⟩
 ·exact .inr ⟨g,cap,cur,rfl,hG g rfl,r⟩
theorem ORow.addr {W:World} {G:Foot} {e:TypeId} {size:Nat} {v:Value} {n:Nat} {cs:List Value} (h:ORow W G e size v n cs) (hn:0 < n) :
  ∃ g cap,v = .slice (some ⟨g,0,none⟩) n cap/\G g/\n <= cap/\cap <= maxLen/\g < W.heap.size/\(∀ i u,cs[i]? = some u -> W.cell? ⟨g,i,none⟩=some u) /\ ∀ i,W.frozen? ⟨g,i,none⟩=false:=by
 rcases h.form with ⟨rfl,_⟩ | ⟨g,cap,cur,rfl,hg,hh,h1,h2,h3,h4⟩
 ·omega
 ·refine ⟨g,cap,rfl,hg,h1,h2,h.lt g hg,fun i u hi => ?_,fun i => ?_⟩
  ·rw [<-h4,List.getElem?_take] at hi
   split at hi
   ·simp only [World.cell?,hh];simpa using hi
   ·cases hi
  ·simp [World.frozen?,hh]
theorem ORow.row {W:World} {G:Foot} {e:TypeId} {size:Nat} {v:Value} {n:Nat} {cs:List Value} (h:ORow W G e size v n cs):Row W v n size cs:=by
 rcases h.form with ⟨rfl,a,rfl⟩ | ⟨g,cap,cur,rfl,hg,hh,h1,h2,h3,h4⟩
 ·have hl:=h.len
  rw [Nat.zero_mul] at hl
  have:=List.eq_nil_of_length_eq_zero hl
  subst this
  exact ⟨by simp,by simp,a,0,rfl,Nat.le_refl _,by unfold maxLen;omega,fun _=>⟨rfl,rfl⟩,fun ad ha j u hj=>by simp at hj⟩
 ·refine ⟨h.len,h.big,some ⟨g,0,none⟩,cap,rfl,h1,h2,by simp,fun ad ha j u hj => ?_⟩
  cases ha
  rw [add_mk,Nat.zero_add]
  rw [<-h4,List.getElem?_take] at hj
  split at hj
  ·simp only [World.cell?,hh];simpa using hj
  ·cases hj
theorem ORow.set {W:World} {G:Foot} {e:TypeId} {size:Nat} {v:Value} {n:Nat} {cs:List Value} (h:ORow W G e size v n cs) {g cap:Nat} (hv:v = .slice (some ⟨g,0,none⟩) n cap) (hn:0 < n) (i:Nat) (u:Value):ORow (W.setCell ⟨g,i,none⟩ u) G e size v n (cs.set i u):=by
 refine ⟨by rw [List.length_set];exact h.len,h.big,fun k hk=>by simpa [World.setCell] using h.lt k hk, ?_⟩
 rcases h.form with ⟨rfl,_⟩ | ⟨g',cap',cur,hv',hg,hh,h1,h2,h3,h4⟩
 ·omega
 ·rw [hv] at hv'
  cases hv'
  refine .inr ⟨g,cap,cur.setIfInBounds i u,hv,hg, ?_,h1,h2,by simpa using h3, ?_⟩
  ·have hlt:=(Array.getElem?_eq_some_iff.1 hh).1
   have hk:=(Array.getElem?_eq_some_iff.1 hh).2
   show (W.heap.modify g _)[g]? = _
   rw [Array.getElem?_eq_getElem (by rw [Array.size_modify];exact hlt),Array.getElem_modify_self,hk]
   rfl
  ·rw [<-h4,Array.toList_setIfInBounds,List.take_set]
theorem ORow.nil {W:World} {e:TypeId} {size:Nat} (a:Option Addr):ORow W Foot.none e size (.slice a 0 0) 0 []:=⟨by simp,by omega,fun k h=>h.elim,.inl ⟨rfl,a,rfl⟩⟩
theorem ORow.off {W W' : World} {G:Foot} {e:TypeId} {size:Nat} {v:Value} {n:Nat} {cs:List Value} (h:ORow W G e size v n cs) {S:Foot} (ho:Off S W W') (hn:G.off S):ORow W' G e size v n cs :=
 h.keep fun k hk=>ho.block k (h.lt k hk) (hn k hk)
structure Nice {α : Type} (R:World -> Foot -> List Value -> α -> Prop):Prop where
 keep:∀ {W W' : World} {S:Foot} {cs:List Value} {x : α},R W S cs x -> (∀ k,S k -> W'.heap[k]? = W.heap[k]?) -> R W' S cs x
 lt:∀ {W:World} {S:Foot} {cs:List Value} {x : α},R W S cs x -> ∀ k,S k -> k < W.heap.size
 wide:∀ {W:World} {S S' : Foot} {cs:List Value} {x : α},R W S cs x -> (∀ k,S k -> S' k) -> (∀ k,S' k -> k < W.heap.size) -> R W S' cs x
theorem Nice.off {α : Type} {R:World -> Foot -> List Value -> α -> Prop} (hR:Nice R) {W W' : World} {S D:Foot} {cs:List Value} {x : α} (h:R W S cs x) (ho:Off D W W') (hn:S.off D):R W' S cs x :=
 hR.keep h fun k hk=>ho.block k (hR.lt h k hk) (hn k hk)
def chunk (cs:List Value) (size j:Nat):List Value:=(cs.drop (j * size)).take size
structure OParts {α : Type} (R:World -> Foot -> List Value -> α -> Prop) (e:TypeId) (size:Nat) (W:World) (S:Foot) (v:Value) (xs:List α) (cs:List Value) (G:Foot) (F:Nat -> Foot):Prop where
 row:ORow W G e size v xs.length cs
 el:∀ j x,xs[j]? = some x -> R W (F j) (chunk cs size j) x
 apart:∀ i j,i < xs.length -> j < xs.length -> i ≠ j -> (F i).off (F j)
 free:∀ j,j < xs.length -> (F j).off G
 inG:∀ k,G k -> S k
 inF:∀ j k,j < xs.length -> F j k -> S k
 lt:∀ k,S k -> k < W.heap.size
def OSl {α : Type} (R:World -> Foot -> List Value -> α -> Prop) (e:TypeId) (size:Nat) (W:World) (S:Foot) (v:Value) (xs:List α):Prop := ∃ cs G F,OParts R e size W S v xs cs G F
theorem OParts.keep {α : Type} {R:World -> Foot -> List Value -> α -> Prop} (hR:Nice R) {e:TypeId} {size:Nat} {W W' : World} {S:Foot} {v:Value} {xs:List α} {cs:List Value} {G:Foot} {F:Nat -> Foot} (h:OParts R e size W S v xs cs G F)
  (hk:∀ k,S k -> W'.heap[k]? = W.heap[k]?):OParts R e size W' S v xs cs G F :=
 ⟨h.row.keep fun k hg=>hk k (h.inG k hg),fun j x hj=>hR.keep (h.el j x hj) fun k hf=>hk k (h.inF j k (List.getElem?_eq_some_iff.1 hj).1 hf),h.apart,h.free,h.inG,h.inF,fun k hs=>by
  have h1:=hk k hs
  rw [Array.getElem?_eq_getElem (h.lt k hs)] at h1
  exact (Array.getElem?_eq_some_iff.1 h1).1⟩
theorem OParts.wide {α : Type} {R:World -> Foot -> List Value -> α -> Prop} {e:TypeId} {size:Nat} {W:World} {S S' : Foot} {v:Value} {xs:List α} {cs:List Value} {G:Foot} {F:Nat -> Foot} (h:OParts R e size W S v xs cs G F)
  (hs:∀ k,S k -> S' k) (hl:∀ k,S' k -> k < W.heap.size):OParts R e size W S' v xs cs G F :=
 ⟨h.row,h.el,h.apart,h.free,fun k hg=>hs k (h.inG k hg),fun j k hj hf=>hs k (h.inF j k hj hf),hl⟩
theorem OSl.nice {α : Type} {R:World -> Foot -> List Value -> α -> Prop} (hR:Nice R) (e:TypeId) (size:Nat):Nice (fun W S cs (xs:List α) => ∃ v,cs=[v]/\OSl R e size W S v xs) where
 keep:=fun ⟨v,hv,cs,G,F,h⟩ hk=>⟨v,hv,cs,G,F,h.keep hR hk⟩
 lt:=fun ⟨v,hv,cs,G,F,h⟩=>h.lt
 wide:=fun ⟨v,hv,cs,G,F,h⟩ hs hl=>⟨v,hv,cs,G,F,h.wide hs hl⟩
theorem OSl.keep {α : Type} {R:World -> Foot -> List Value -> α -> Prop} (hR:Nice R) {e:TypeId} {size:Nat} {W W' : World} {S:Foot} {v:Value} {xs:List α} (h:OSl R e size W S v xs) (hk:∀ k,S k -> W'.heap[k]? = W.heap[k]?):OSl R e size W' S v xs :=
 let ⟨cs,G,F,h⟩:=h; ⟨cs,G,F,h.keep hR hk⟩
theorem OSl.wide {α : Type} {R:World -> Foot -> List Value -> α -> Prop} {e:TypeId} {size:Nat} {W:World} {S S' : Foot} {v:Value} {xs:List α} (h:OSl R e size W S v xs) (hs:∀ k,S k -> S' k) (hl:∀ k,S' k -> k < W.heap.size):OSl R e size W S' v xs :=
 let ⟨cs,G,F,h⟩:=h; ⟨cs,G,F,h.wide hs hl⟩
theorem OSl.lt {α : Type} {R:World -> Foot -> List Value -> α -> Prop} {e:TypeId} {size:Nat} {W:World} {S:Foot} {v:Value} {xs:List α} (h:OSl R e size W S v xs):∀ k,S k -> k < W.heap.size :=
 let ⟨cs,G,F,h⟩:=h;h.lt
theorem OSl.off {α : Type} {R:World -> Foot -> List Value -> α -> Prop} (hR:Nice R) {e:TypeId} {size:Nat} {W W' : World} {S D:Foot} {v:Value} {xs:List α} (h:OSl R e size W S v xs) (ho:Off D W W') (hn:S.off D):OSl R e size W' S v xs :=
 h.keep hR fun k hk=>ho.block k (h.lt k hk) (hn k hk)
theorem OSl.nil {α : Type} {R:World -> Foot -> List Value -> α -> Prop} {e:TypeId} {size:Nat} {W:World} (a:Option Addr):OSl R e size W Foot.none (.slice a 0 0) ([] : List α) :=
 ⟨[],Foot.none,fun _=>Foot.none,ORow.nil a,by simp,fun i j hi=>by simp at hi,fun j hj=>by simp at hj,fun k h=>h,fun j k hj=>by simp at hj,fun k h=>h.elim⟩
theorem OSl.reads {α : Type} {R:World -> Foot -> List Value -> α -> Prop} {R0:World -> List Value -> α -> Prop} {e:TypeId} {size:Nat} {W:World} {S:Foot} {v:Value} {xs:List α} (h:OSl R e size W S v xs) (hr:∀ S cs x,R W S cs x -> R0 W cs x):SliceOf R0 size W v xs :=
 let ⟨cs,G,F,h⟩:=h; ⟨cs,h.row.row,fun j x hj=>hr _ _ _ (h.el j x hj)⟩
theorem OParts.put {α : Type} {R:World -> Foot -> List Value -> α -> Prop} (hR:Nice R) {e:TypeId} {size:Nat} {W W' : World} {S:Foot} {v:Value} {xs:List α} {cs:List Value} {G:Foot} {F:Nat -> Foot} (h:OParts R e size W S v xs cs G F)
  {j:Nat} {x : α} (hj:xs[j]? = some x) (x' : α) {cs' : List Value} {Fj:Foot} (ho:Off (G.or (F j)) W W') (hrow:ORow W' G e size v xs.length cs') (hcs:∀ i,i < xs.length -> i ≠ j -> chunk cs' size i=chunk cs size i)
  (hel:R W' Fj (chunk cs' size j) x') (hF:∀ k,Fj k -> F j k \/ ¬ S k) (S' : Foot) (hS:∀ k,S k -> S' k) (hS2:∀ k,Fj k -> S' k) (hl:∀ k,S' k -> k < W'.heap.size) :
  OParts R e size W' S' v (xs.set j x') cs' G (fun i=>if i=j then Fj else F i):=by
 have hjl:=(List.getElem?_eq_some_iff.1 hj).1
 refine ⟨by rw [List.length_set];exact hrow,fun i y hi => ?_,fun a b ha hb hab k h1 h2 => ?_,fun i hi k h1 h2 => ?_,fun k hg=>hS k (h.inG k hg),fun i k hi h1 => ?_,hl⟩
 ·rw [List.getElem?_set] at hi
  by_cases e1:j=i
  ·subst e1
   simp only [if_true,hjl] at hi
   cases hi
   rw [if_pos rfl];exact hel
  ·rw [if_neg e1] at hi
   have hil:=(List.getElem?_eq_some_iff.1 hi).1
   rw [if_neg (Ne.symm e1),hcs i hil (Ne.symm e1)]
   refine hR.off (h.el i y hi) ho fun k hk hm => ?_
   rcases hm with hm | hm
   ·exact h.free i hil k hk hm
   ·exact h.apart i j hil hjl (Ne.symm e1) k hk hm
 ·rw [List.length_set] at ha hb
  by_cases e1:a=j
  ·have e2:b ≠ j:=fun e2=>hab (e1.trans e2.symm)
   rw [if_pos e1] at h1
   rw [if_neg e2] at h2
   rcases hF k h1 with h3 | h3
   ·exact h.apart j b hjl hb (Ne.symm e2) k h3 h2
   ·exact h3 (h.inF b k hb h2)
  ·rw [if_neg e1] at h1
   by_cases e2:b=j
   ·rw [if_pos e2] at h2
    rcases hF k h2 with h3 | h3
    ·exact h.apart a j ha hjl e1 k h1 h3
    ·exact h3 (h.inF a k ha h1)
   ·rw [if_neg e2] at h2
    exact h.apart a b ha hb hab k h1 h2
 ·rw [List.length_set] at hi
  by_cases e1:i=j
  ·rw [if_pos e1] at h1
   rcases hF k h1 with h3 | h3
   ·exact h.free j hjl k h3 h2
   ·exact h3 (h.inG k h2)
  ·rw [if_neg e1] at h1
   exact h.free i hi k h1 h2
 ·rw [List.length_set] at hi
  by_cases e1:i=j
  ·rw [if_pos e1] at h1;exact hS2 k h1
  ·rw [if_neg e1] at h1;exact hS k (h.inF i k hi h1)
theorem OParts.snoc {α : Type} {R:World -> Foot -> List Value -> α -> Prop} (hR:Nice R) {e:TypeId} {size:Nat} {W W' : World} {S:Foot} {v v' : Value} {xs:List α} {cs:List Value} {G G' : Foot} {F:Nat -> Foot} (h:OParts R e size W S v xs cs G F)
  {x : α} {ds:List Value} {Fn:Foot} (hx:R W Fn ds x) (hFn:Fn.off S) (ho:Off G W W') (hrow:ORow W' G' e size v' (xs.length+1) (cs ++ ds)) (hG:∀ k,G' k -> G k \/ W.heap.size <= k) :
  OParts R e size W' (fun k=>S k \/ Fn k \/ G' k) v' (xs ++ [x]) (cs ++ ds) G' (fun i=>if i=xs.length then Fn else F i):=by
 have hlen:=h.row.len
 have hds:ds.length=size:=by have:=hrow.len;rw [List.length_append,hlen,Nat.add_mul,Nat.one_mul] at this;omega
 have hFl:∀ i k,i < xs.length -> F i k -> k < W.heap.size:=fun i k hi hf=>h.lt k (h.inF i k hi hf)
 refine ⟨by rw [List.length_append];exact hrow,fun i y hi => ?_,fun a b ha hb hab k h1 h2 => ?_,fun i hi k h1 h2 => ?_,fun k hg=>.inr (.inr hg),fun i k hi h1 => ?_,fun k hk => ?_⟩
 ·have hil:=(List.getElem?_eq_some_iff.1 hi).1
  rw [List.length_append,List.length_singleton] at hil
  by_cases e1:i=xs.length
  ·subst e1
   rw [List.getElem?_append_right (Nat.le_refl _),Nat.sub_self] at hi
   cases hi
   rw [if_pos rfl]
   have:chunk (cs ++ ds) size xs.length=ds:=by unfold chunk;rw [<-hlen,List.drop_left,List.take_of_length_le (by omega)]
   rw [this]
   exact hR.off hx ho fun k h1 h2=>hFn k h1 (h.inG k h2)
  ·have hi2:i < xs.length:=by omega
   rw [List.getElem?_append_left hi2] at hi
   rw [if_neg e1]
   have hm:i * size+size <= cs.length:=by rw [hlen];have:(i+1) * size <= xs.length * size:=Nat.mul_le_mul_right _ hi2;rw [Nat.add_mul,Nat.one_mul] at this;exact this
   have:chunk (cs ++ ds) size i=chunk cs size i:=by unfold chunk;rw [List.drop_append_of_le_length (by omega),List.take_append_of_le_length (by rw [List.length_drop];omega)]
   rw [this]
   exact hR.off (h.el i y hi) ho (h.free i hi2)
 ·rw [List.length_append,List.length_singleton] at ha hb
  by_cases e1:a=xs.length
  ·have e2:b ≠ xs.length:=fun e2=>hab (e1.trans e2.symm)
   rw [if_pos e1] at h1
   rw [if_neg e2] at h2
   exact hFn k h1 (h.inF b k (by omega) h2)
  ·rw [if_neg e1] at h1
   by_cases e2:b=xs.length
   ·rw [if_pos e2] at h2
    exact hFn k h2 (h.inF a k (by omega) h1)
   ·rw [if_neg e2] at h2
    exact h.apart a b (by omega) (by omega) hab k h1 h2
 ·rw [List.length_append,List.length_singleton] at hi
  by_cases e1:i=xs.length
  ·rw [if_pos e1] at h1
   rcases hG k h2 with h3 | h3
   ·exact hFn k h1 (h.inG k h3)
   ·have:=hR.lt hx k h1;omega
  ·rw [if_neg e1] at h1
   rcases hG k h2 with h3 | h3
   ·exact h.free i (by omega) k h1 h3
   ·have:=hFl i k (by omega) h1;omega
 ·rw [List.length_append,List.length_singleton] at hi
  by_cases e1:i=xs.length
  ·rw [if_pos e1] at h1;exact .inr (.inl h1)
  ·rw [if_neg e1] at h1;exact .inl (h.inF i k (by omega) h1)
 ·rcases hk with hk | hk | hk
  ·exact Nat.lt_of_lt_of_le (h.lt k hk) ho.size
  ·exact Nat.lt_of_lt_of_le (hR.lt hx k hk) ho.size
  ·exact hrow.lt k hk
theorem chunk_set {cs:List Value} {size i j o:Nat} {u:Value} (hij:i ≠ j) (ho:o < size):chunk (cs.set (j * size+o) u) size i=chunk cs size i:=by
 unfold chunk
 apply List.ext_getElem?
 intro k
 rw [List.getElem?_take,List.getElem?_take]
 split
 ·rename_i hk
  rw [List.getElem?_drop,List.getElem?_drop,List.getElem?_set,if_neg]
  intro e
  rcases Nat.lt_or_gt_of_ne hij with h | h
  ·have:(i+1) * size <= j * size:=Nat.mul_le_mul_right _ h
   rw [Nat.add_mul,Nat.one_mul] at this;omega
  ·have:(j+1) * size <= i * size:=Nat.mul_le_mul_right _ h
   rw [Nat.add_mul,Nat.one_mul] at this;omega
 ·rfl
theorem chunk_set_self {cs:List Value} {size j o:Nat} {u:Value} (ho:o < size):chunk (cs.set (j * size+o) u) size j=(chunk cs size j).set o u:=by
 unfold chunk
 apply List.ext_getElem?
 intro k
 rw [List.getElem?_take,List.getElem?_set,List.getElem?_take,List.getElem?_drop,List.getElem?_set,List.getElem?_drop,List.length_take,List.length_drop]
 by_cases hk:o=k
 ·subst hk
  simp only [ho,if_true]
  by_cases hl:j * size+o < cs.length
  ·rw [if_pos hl,if_pos (by omega)]
  ·rw [if_neg hl,if_neg (by omega)]
 ·rw [if_neg hk]
  have h1:¬ (j * size+o=j * size+k):=by omega
  simp only [h1,if_false]
theorem chunk_at {cs:List Value} {size j i:Nat} (hi:i < size):(chunk cs size j)[i]? = cs[j * size+i]?:=by
 unfold chunk;rw [List.getElem?_take,if_pos hi,List.getElem?_drop]
def OInts (W:World) (S:Foot) (v:Value) (xs:List Int):Prop:=ORow W S 3 1 v xs.length (xs.map (.int .i64)) /\ ∀ x ∈ xs,In64 x
theorem OInts.ints {W:World} {S:Foot} {v:Value} {xs:List Int} (h:OInts W S v xs):Ints W v xs:=⟨h.1.row,h.2⟩
theorem OInts.keep {W W' : World} {S:Foot} {v:Value} {xs:List Int} (h:OInts W S v xs) (hk:∀ k,S k -> W'.heap[k]? = W.heap[k]?):OInts W' S v xs:=⟨h.1.keep hk,h.2⟩
theorem OInts.wide {W:World} {S S' : Foot} {v:Value} {xs:List Int} (h:OInts W S v xs) (hs:∀ k,S k -> S' k) (hl:∀ k,S' k -> k < W.heap.size):OInts W S' v xs:=⟨h.1.wide hs hl,h.2⟩
theorem OInts.lt {W:World} {S:Foot} {v:Value} {xs:List Int} (h:OInts W S v xs):∀ k,S k -> k < W.heap.size:=h.1.lt
theorem OInts.off {W W' : World} {S D:Foot} {v:Value} {xs:List Int} (h:OInts W S v xs) (ho:Off D W W') (hn:S.off D):OInts W' S v xs:=⟨h.1.off ho hn,h.2⟩
theorem OInts.set {W:World} {S:Foot} {v:Value} {xs:List Int} (h:OInts W S v xs) {g cap:Nat} (hv:v = .slice (some ⟨g,0,none⟩) xs.length cap) {i:Nat} (hi:i < xs.length) {y:Int} (hy:In64 y):OInts (W.setCell ⟨g,i,none⟩ (.int .i64 y)) S v (xs.set i y):=by
 refine ⟨by rw [List.length_set,List.map_set];exact h.1.set hv (by omega) i _,fun z hz => ?_⟩
 rcases List.mem_or_eq_of_mem_set hz with h1 | h1
 ·exact h.2 z h1
 ·rw [h1];exact hy
theorem OInts.nil {W:World} (a:Option Addr):OInts W Foot.none (.slice a 0 0) []:=⟨ORow.nil a,by simp⟩
theorem run_oapp {P:Program} {w:World} {t ty e:TypeId} {z:Value} {size bytes:Nat} (he:Elem P t e z size bytes) {v xv:Value} {n m:Nat} {cs news:List Value} {G:Foot} (h:ORow w G e size v n cs) (hr:Row w xv m size news)
  (h1:∀ u ∈ news,u.oneCell' = true) (hbig:n+m <= 17592186044416) (hbytes:(n+m) * bytes <= 140737488355328) :
  ∃ v' w' G',(Builtin.append_ #[t,t] ty #[v,xv]).run P w = .ok v' w' /\ ORow w' G' e size v' (n+m) (cs ++ news)/\(∀ k,G' k -> G k \/ w.heap.size <= k)/\Off G w w' /\
   (∀ g j,v.ownBlock=some g -> j < n * size -> w'.cell? ⟨g,j,none⟩=w.cell? ⟨g,j,none⟩):=by
 have hbl:n+m <= maxLen:=by unfold maxLen;omega
 have fin:∀ (base:Nat) (v' : Value) (w' : World),w'.ownsRow base e size v' (n+m) (cs ++ news) -> (∀ k,v'.ownBlock=some k -> G k \/ w.heap.size <= k) -> ∃ G',ORow w' G' e size v' (n+m) (cs ++ news) /\ ∀ k,G' k -> G k \/ w.heap.size <= k:=fun base v' w' r1 r2 =>
  ⟨fun k=>v'.ownBlock=some k,ORow.of_own r1 hbig (fun k hk=>hk) (fun k hk=>(r1.lt k hk).2),r2⟩
 have hlen:=h.len
 rcases h.form with ⟨rfl,a,rfl⟩ | ⟨g,cap,cur,rfl,hg,hh,k1,k2,k3,k4⟩
 ·have hcs:cs=[]:=List.eq_nil_of_length_eq_zero (by simpa using hlen)
  subst hcs
  have hno:∀ g j,(Value.slice a 0 0).ownBlock=some g -> j < 0 * size -> w.cell? ⟨g,j,none⟩=w.cell? ⟨g,j,none⟩:=fun _ _ _ _=>rfl
  by_cases hm:m=0
  ·subst hm
   have hn:news=[]:=List.eq_nil_of_length_eq_zero (by simpa using hr.len)
   subst hn
   refine ⟨.slice a 0 0,w,Foot.none, ?_,ORow.nil a,fun k hk=>hk.elim,Off.refl _ _,fun g j _ hj=>by simp at hj⟩
   obtain ⟨ht,⟨i,hi,hz,hsz,hby⟩,hzc,hp⟩:=he
   obtain ⟨_,_,ad,cap,rfl,_,_,_,_⟩:=hr
   cases a <;> cases ad <;> simp [Builtin.append_,run_underlying ht,sizeOf,typeInfo,hi,Builtin.lenOf,Builtin.firstCells,loadCells,loadCellsFrom,storeCells]
  ·cases a with
   | none =>
    obtain ⟨v',w',hrun,r1,r2,r3, -, -⟩:=run_append_full (ty:=ty) he w.heap.size (World.ownsRow_nil w w.heap.size e size) hr h1 hbl hbytes (Nat.le_refl _)
    obtain ⟨G',g1,g2⟩:=fin _ v' w' r1 (fun k hk=>.inr (r1.lt k hk).1)
    exact ⟨v',w',G',hrun,g1,g2,Off.grown r2 (fun k hk=>by cases hk),fun g j _ hj=>by simp at hj⟩
   | some b =>
    obtain ⟨ht,⟨i,hi,hz,hsz,hby⟩,hzc,hp⟩:=he
    obtain ⟨hl,_,ad,cap,rfl,_,_,hnone,hc⟩:=hr
    cases ad with
    | none=>exact absurd (hnone rfl).1 hm
    | some ad =>
     obtain ⟨v',w',hrun,r1,r2⟩:=run_append_arg_grows (P:=P) w t ty e i z size bytes ht hi hz hsz hby hzc hp b 0 0 [] (by simp) (fun j u hj=>by simp at hj) ad m cap news hl (fun j u hj=>hc ad rfl j u hj) (by omega) hbl hbytes
     obtain ⟨G',g1,g2⟩:=fin _ v' w' r1 (fun k hk=>.inr (r1.lt k hk).1)
     exact ⟨v',w',G',hrun,g1,g2,Off.grown r2 (fun k hk=>by cases hk),fun g j _ hj=>by simp at hj⟩
 ·have hown:w.ownsRow 0 e size (.slice (some ⟨g,0,none⟩) n cap) n cs:=⟨hlen,.inr ⟨g,cap,cur,rfl,Nat.zero_le _,hh,k1,k2,k3,k4⟩⟩
  obtain ⟨v',w',hrun,r1,r2,r3,r4, -⟩:=run_append_full (ty:=ty) he 0 hown hr h1 hbl hbytes (Nat.zero_le _)
  obtain ⟨G',g1,g2⟩:=fin _ v' w' r1 (fun k hk=>by
   rcases r3 with e3 | e3
   ·rw [e3] at hk;cases hk;exact .inl hg
   ·rw [e3] at hk;cases hk;exact .inr (Nat.le_refl _))
  exact ⟨v',w',G',hrun,g1,g2,Off.grown r2 (fun k hk=>by cases hk;exact hg),r4⟩
theorem wpList_oapp {P:Program} {w:World} {ops:Array Oper} {rest:List Oper} {o:Oper} {a:Act} {Q:Exit -> Act -> World -> Prop} (hgd:o.guard=none) (s x:Operand) (t e:TypeId)
  (ho:o.op = .call { callee:=.builtin .append,args:=#[s,x],argTypes:=#[t,t] }) {z:Value} {size bytes:Nat} (he:Elem P t e z size bytes)
  {v xv:Value} {n m:Nat} {cs news:List Value} {G:Foot} (hs:a.eval s=v) (hx:a.eval x=xv) (h:ORow w G e size v n cs) (hr:Row w xv m size news)
  (h1:∀ u ∈ news,u.oneCell' = true) (hbig:n+m <= 17592186044416) (hbytes:(n+m) * bytes <= 140737488355328)
  (hK:∀ v' w' G',ORow w' G' e size v' (n+m) (cs ++ news) -> (∀ k,G' k -> G k \/ w.heap.size <= k) -> Off G w w' -> wpList P ops Q rest (a.put o.dst v') w'):wpList P ops Q (o :: rest) a w:=by
 obtain ⟨v',w',G',hrun,r1,r2,r3, -⟩:=run_oapp (ty:=o.type) he h hr h1 hbig hbytes
 refine wpList_plain hgd fun K hK' => ?_
 unfold Oper.wp execOp
 simp only [ho,resolve,invoke,builtin,Sem.run_bind,Sem.run_pure,Result.andThen_ok,List.map_toArray,List.map_cons,List.map_nil,hs,hx,hrun]
 exact hK' _ _ (hK v' w' G' r1 r2 r3)
theorem exec_oapp {P:Program} {w:World} {o:Oper} {a:Act} (s x:Operand) (t e:TypeId)
  (ho:o.op = .call { callee:=.builtin .append,args:=#[s,x],argTypes:=#[t,t] }) {z:Value} {size bytes:Nat} (he:Elem P t e z size bytes)
  {v xv:Value} {n m:Nat} {cs news:List Value} {G:Foot} (hs:a.eval s=v) (hx:a.eval x=xv) (h:ORow w G e size v n cs) (hr:Row w xv m size news)
  (h1:∀ u ∈ news,u.oneCell' = true) (hbig:n+m <= 17592186044416) (hbytes:(n+m) * bytes <= 140737488355328) :
  ∃ v' w' G',(execOp a.eval o).run P w = .ok (.value v') w' /\ ORow w' G' e size v' (n+m) (cs ++ news)/\(∀ k,G' k -> G k \/ w.heap.size <= k)/\Off G w w' /\
   (∀ g j,v.ownBlock=some g -> j < n * size -> w'.cell? ⟨g,j,none⟩=w.cell? ⟨g,j,none⟩):=by
 obtain ⟨v',w',G',hrun,r⟩:=run_oapp (ty:=o.type) he h hr h1 hbig hbytes
 refine ⟨v',w',G', ?_,r⟩
 unfold execOp
 simp only [ho,resolve,invoke,builtin,Sem.run_bind,Sem.run_pure,Result.andThen_ok,List.map_toArray,List.map_cons,List.map_nil,hs,hx,hrun]
def Fresh (base:Nat) (S:Foot):Prop := ∀ k,S k -> base <= k
theorem Fresh.off {base:Nat} {S D:Foot} (h:Fresh base S) (hD:∀ k,D k -> k < base):S.off D:=fun k hs hd=>by have:=h k hs;have:=hD k hd;omega
open Go.RowKit Go.Shelf
def searchRen:Go.Shelf.Ren:=⟨fun | 21=>150 | 25=>149 | 27=>177 | 28=>178 | 31=>160 | 32=>176 | 35=>193 | 37=>186 | 39=>124 | n=>n,
 fun | 0=>0 | 3=>3 | 4=>4 | 22=>22 | 40=>185 | n=>n,
 fun | n=>n⟩
theorem searchLays:Lays2.n25 Tryz.prog searchRen := {
 mixed:=by kernel_rfl
 f25:=Tryz.func149.trans (congrArg some (by kernel_rfl))
 f31:=Tryz.func160.trans (congrArg some (by kernel_rfl))
 f32:=Tryz.func176.trans (congrArg some (by kernel_rfl))
 f37:=Tryz.func186.trans (congrArg some (by kernel_rfl))
 t0:=Tryz.underlying0
 a0:=Tryz.isAgg0
 z0:=Tryz.sizeOf0
 v0:=Tryz.zeroValue0
 t3:=Tryz.underlying3
 a3:=Tryz.isAgg3
 z3:=Tryz.sizeOf3
 v3:=Tryz.zeroValue3
 t4:=Tryz.underlying4
 a4:=Tryz.isAgg4
 z4:=Tryz.sizeOf4
 v4:=Tryz.zeroValue4
 t22:=Tryz.underlying22
 a22:=Tryz.isAgg22
 z22:=Tryz.sizeOf22
 v22:=Tryz.zeroValue22
 t40:=Tryz.underlying185
 a40:=Tryz.isAgg185
 z40:=Tryz.sizeOf185
 v40:=Tryz.zeroValue185 }
theorem insertLays:Lays2.n21 Tryz.prog searchRen := {
 mixed:=by kernel_rfl
 f21:=Tryz.func150.trans (congrArg some (by kernel_rfl))
 f27:=Tryz.func177.trans (congrArg some (by kernel_rfl))
 f28:=Tryz.func178.trans (congrArg some (by kernel_rfl))
 f35:=Tryz.func193.trans (congrArg some (by kernel_rfl))
 f39:=Tryz.func124.trans (congrArg some (by kernel_rfl))
 t0:=Tryz.underlying0
 a0:=Tryz.isAgg0
 z0:=Tryz.sizeOf0
 v0:=Tryz.zeroValue0
 t3:=Tryz.underlying3
 a3:=Tryz.isAgg3
 z3:=Tryz.sizeOf3
 v3:=Tryz.zeroValue3
 t4:=Tryz.underlying4
 a4:=Tryz.isAgg4
 z4:=Tryz.sizeOf4
 v4:=Tryz.zeroValue4
 t22:=Tryz.underlying22
 a22:=Tryz.isAgg22
 z22:=Tryz.sizeOf22
 v22:=Tryz.zeroValue22
 i3:=by kernel_rfl }
set_option maxHeartbeats 1600000 in
theorem searchNil {w:World} {a:Option Addr} {c:Nat} {x:Int}:Calls Tryz.prog 149 #[.slice a 0 c,.int .i64 x] w fun e w'=>e = .returned (.tuple #[.int .i64 0,.bool false])/\w' = w:=by
 go_enter Tryz.func149,Tryz.ntmps149
 go_wp2
 go_loopw [7,8] (fun i j wr=>i = .int .i64 0/\j = .int .i64 0/\wr=w) (fun _ _ _=>0)
 case atStart=>exact ⟨rfl,rfl,rfl⟩
 case round =>
  obtain ⟨rfl,rfl,rfl⟩:=hrel
  go_wp2
  go_ret2
  exact ⟨rfl,rfl⟩
theorem binSearch {w:World} {v:Value} {xs:List Int} {x:Int} (hv:Ints w v xs) (hs:xs.Pairwise (· < ·)) :
  Calls Tryz.prog 149 #[v,.int .i64 x] w fun e w'=>e = .returned (.tuple #[.int .i64 (xs.countP (· < x):Nat),.bool (xs.contains x)])/\Below w.heap.size w w':=by
 obtain ⟨a,cap,b,o,rfl, -, -,ha,hc⟩:=hv.parts
 by_cases h0:xs.length=0
 ·have e:xs=[]:=List.eq_nil_of_length_eq_zero h0
  subst e
  exact searchNil.mono fun e w' ⟨h1,h2⟩=>⟨h1,by rw [h2];exact Below.refl _ _⟩
 ·obtain ⟨rfl, -⟩:=ha (by omega)
  have h:=Any.slices_BinarySearch_int searchLays b o xs.length cap xs x w (Nat.le_refl _) (by have:=hv.le;omega) hc (by rw [List.take_length];exact hs.imp (fun h=>Int.le_of_lt h))
  rw [List.take_length] at h
  exact h.mono fun e w' ⟨h1,n,h2⟩=>⟨h1,by rw [h2];exact ⟨rfl,rfl,rfl,Nat.le_refl _,fun _ _=>rfl⟩⟩
end Go.Proofs.YtgmhnepmkaonaaaGreat
