/- Part 21. -/
import Derived.Test.YtagabiidbbhhmaaGreatEB6
namespace Go.Proofs.YtagabiidbbhhmaaGreat
set_option linter.all false
open Go.RowKit
abbrev Foot:=Nat -> Prop
def Foot.or (A B:Foot):Foot:=fun k=>A k \/ B k
def Foot.none:Foot:=fun _=>False
def Foot.one (g:Nat):Foot:=fun k=>k=g
def Foot.off (A B:Foot):Prop := ∀ k,A k -> ¬ B k
theorem Foot.off.symm {A B:Foot} (h:A.off B):B.off A:=fun k hb ha=>h k ha hb
structure Off (S:Foot) (W W' : World):Prop where
 os:W'.os=W.os
 tape:W'.tape=W.tape
 output:W'.output=W.output
 size:W.heap.size <= W'.heap.size
 block:∀ k,k < W.heap.size -> ¬ S k -> W'.heap[k]? = W.heap[k]?
theorem Off.refl (S:Foot) (W:World):Off S W W:=⟨rfl,rfl,rfl,aA _,fun _ _ _=>rfl⟩
theorem Off.trans {S:Foot} {A B C:World} (h:Off S A B) (k:Off S B C):Off S A C :=
 ⟨k.os.trans h.os,k.tape.trans h.tape,k.output.trans h.output,bI h.size k.size,fun i hi hn=>(k.block i (bA hi h.size) hn).trans (h.block i hi hn)⟩
theorem Off.mono {S S' : Foot} {W W' : World} (h:Off S W W') (hs:∀ k,k < W.heap.size -> S k -> S' k):Off S' W W' :=
 ⟨h.os,h.tape,h.output,h.size,fun k hk hn=>h.block k hk fun hm=>hn (hs k hk hm)⟩
theorem Off.of_below {W W' : World} (h:Below W.heap.size W W') (S:Foot):Off S W W':=⟨h.os,h.tape,h.output,h.size,fun k hk _=>h.block k hk⟩
theorem Off.below {S:Foot} {W W' : World} (h:Off S W W') {base:Nat} (hb:base <= W.heap.size) (hS:∀ k,k < W.heap.size -> S k -> base <= k):Below base W W' :=
 ⟨h.os,h.tape,h.output,h.size,fun k hk=>h.block k (by omega) fun hm=>by have:=hS k (by omega) hm;omega⟩
theorem Off.set (W:World) (p:Addr) (u:Value):Off (Foot.one p.block) W (W.setCell p u) :=
 ⟨rfl,rfl,rfl,by simp [World.setCell],fun k _ hn=>Below.heap_setCell W p u k hn⟩
theorem Off.alloc (S:Foot) (W:World) (o:Obj):Off S W (W.alloc o):=.of_below ((Below.refl _ _).alloc (aA _) o) S
theorem Off.grown {S:Foot} {W W' : World} {row:Option Nat} (hg:W.grownBy W' row) (hS:∀ k,row=some k -> S k):Off S W W' :=
 ⟨hg.os,hg.tape,hg.output,hg.size,fun k hk hn=>hg.block k hk fun e=>hn (hS k e.symm)⟩
theorem Box.off {W W' : World} {b:Nat} {A:Array Value} (h:Box W b A) {S:Foot} (ho:Off S W W') (hn:¬ S b):Box W' b A:=by
 have hh:=ho.block b h.lt hn
 exact ⟨bA h.lt ho.size,fun o=>(World.cell?_of_block (w:=W) (a:=⟨b,o,none⟩) hh).trans (h.cell o),fun o=>(World.frozen?_of_block (w:=W) (a:=⟨b,o,none⟩) hh).trans (h.free o)⟩
structure ORow (W:World) (G:Foot) (e:TypeId) (size:Nat) (v:Value) (n:Nat) (cs:List Value):Prop where
 len:cs.length=n * size
 big:n <= 17592186044416
 lt:∀ k,G k -> k < W.heap.size
 form:(n=0 /\ ∃ a,v = .slice a 0 0) \/ ∃ g cap cur,v = .slice (some ⟨g,0,none⟩) n cap/\G g/\W.heap[g]? = some (.cells cur e (0,0))/\n <= cap/\cap <= maxLen/\cur.size=cap * size/\cur.toList.take (n * size)=cs
theorem ORow.keep {W W' : World} {G:Foot} {e:TypeId} {size:Nat} {v:Value} {n:Nat} {cs:List Value} (h:ORow W G e size v n cs) (hk:∀ k,G k -> W'.heap[k]? = W.heap[k]?):ORow W' G e size v n cs:=by
 refine ⟨h.len,h.big,fun k hg => ?_, ?_⟩
 ·have h1:=hk k hg
  rw [aV (h.lt k hg)] at h1
  exact (aL.1 h1).1
 rcases h.form with h1 | ⟨g,cap,cur,hv,hg,hh,r⟩
 ·exact .inl h1
 exact .inr ⟨g,cap,cur,hv,hg,(hk g hg).trans hh,r⟩
theorem ORow.wide {W:World} {G G' : Foot} {e:TypeId} {size:Nat} {v:Value} {n:Nat} {cs:List Value} (h:ORow W G e size v n cs) (hs:∀ k,G k -> G' k) (hl:∀ k,G' k -> k < W.heap.size):ORow W G' e size v n cs:=by
 refine ⟨h.len,h.big,hl, ?_⟩
 rcases h.form with h1 | ⟨g,cap,cur,hv,hg,r⟩
 ·exact .inl h1
 exact .inr ⟨g,cap,cur,hv,hs g hg,r⟩
theorem ORow.of_own {W:World} {base:Nat} {e:TypeId} {size:Nat} {v:Value} {n:Nat} {cs:List Value} (h:W.ownsRow base e size v n cs) (hn:n <= 17592186044416) {G:Foot} (hG:∀ k,v.ownBlock=some k -> G k) (hl:∀ k,G k -> k < W.heap.size):ORow W G e size v n cs:=by
 refine ⟨h.1,hn,hl, ?_⟩
 rcases h.2 with ⟨rfl,rfl⟩ | ⟨g,cap,cur,rfl,_,r⟩
 ·exact .inl ⟨rfl,_,rfl⟩
 exact .inr ⟨g,cap,cur,rfl,hG g rfl,r⟩
theorem ORow.addr {W:World} {G:Foot} {e:TypeId} {size:Nat} {v:Value} {n:Nat} {cs:List Value} (h:ORow W G e size v n cs) (hn:0 < n) :
  ∃ g cap,v = .slice (some ⟨g,0,none⟩) n cap/\G g/\n <= cap/\cap <= maxLen/\g < W.heap.size/\(∀ i u,cs[i]? = some u -> W.cell? ⟨g,i,none⟩=some u) /\ ∀ i,W.frozen? ⟨g,i,none⟩=false:=by
 rcases h.form with ⟨rfl,_⟩ | ⟨g,cap,cur,rfl,hg,hh,h1,h2,h3,h4⟩
 ·omega
 ·refine ⟨g,cap,rfl,hg,h1,h2,h.lt g hg,fun i u hi => ?_,fun i => ?_⟩
  ·rw [<-h4,aW] at hi
   split at hi
   ·simp only [World.cell?,hh];simpa using hi
   cases hi
  simp [World.frozen?,hh]
theorem ORow.row {W:World} {G:Foot} {e:TypeId} {size:Nat} {v:Value} {n:Nat} {cs:List Value} (h:ORow W G e size v n cs):Row W v n size cs:=by
 rcases h.form with ⟨rfl,a,rfl⟩ | ⟨g,cap,cur,rfl,hg,hh,h1,h2,h3,h4⟩
 ·have hl:=h.len
  rw [Nat.zero_mul] at hl
  have:=bY hl
  subst this
  exact ⟨by simp,by simp,a,0,rfl,aA _,by unfold maxLen;omega,fun _=>⟨rfl,rfl⟩,fun ad ha j u hj=>by simp at hj⟩
 refine ⟨h.len,h.big,some ⟨g,0,none⟩,cap,rfl,h1,h2,by simp,fun ad ha j u hj => ?_⟩
 cases ha
 rw [pJ,bG]
 rw [<-h4,aW] at hj
 split at hj
 ·simp only [World.cell?,hh];simpa using hj
 cases hj
theorem ORow.set {W:World} {G:Foot} {e:TypeId} {size:Nat} {v:Value} {n:Nat} {cs:List Value} (h:ORow W G e size v n cs) {g cap:Nat} (hv:v = .slice (some ⟨g,0,none⟩) n cap) (hn:0 < n) (i:Nat) (u:Value):ORow (W.setCell ⟨g,i,none⟩ u) G e size v n (cs.set i u):=by
 refine ⟨by rw [List.length_set];exact h.len,h.big,fun k hk=>by simpa [World.setCell] using h.lt k hk, ?_⟩
 rcases h.form with ⟨rfl,_⟩ | ⟨g',cap',cur,hv',hg,hh,h1,h2,h3,h4⟩
 ·omega
 rw [hv] at hv'
 cases hv'
 refine .inr ⟨g,cap,cur.setIfInBounds i u,hv,hg, ?_,h1,h2,by simpa using h3, ?_⟩
 ·have hlt:=(aL.1 hh).1
  have hk:=(aL.1 hh).2
  show (W.heap.modify g _)[g]? = _
  rw [aV (by rw [Array.size_modify];exact hlt),Array.getElem_modify_self,hk]
  rfl
 rw [<-h4,Array.toList_setIfInBounds,List.take_set]
theorem ORow.nil {W:World} {e:TypeId} {size:Nat} (a:Option Addr):ORow W Foot.none e size (.slice a 0 0) 0 []:=⟨by simp,by omega,fun k h=>h.elim,.inl ⟨rfl,a,rfl⟩⟩
theorem ORow.off {W W' : World} {G:Foot} {e:TypeId} {size:Nat} {v:Value} {n:Nat} {cs:List Value} (h:ORow W G e size v n cs) {S:Foot} (ho:Off S W W') (hn:G.off S):ORow W' G e size v n cs :=
 h.keep fun k hk=>ho.block k (h.lt k hk) (hn k hk)
structure Nice {α : Type} (R:World -> Foot -> List Value -> α -> Prop):Prop where
 keep:∀ {W W' : World} {S:Foot} {cs:List Value} {x : α},R W S cs x -> (∀ k,S k -> W'.heap[k]? = W.heap[k]?) -> R W' S cs x
 lt:∀ {W:World} {S:Foot} {cs:List Value} {x : α},R W S cs x -> ∀ k,S k -> k < W.heap.size
 wide:∀ {W:World} {S S' : Foot} {cs:List Value} {x : α},R W S cs x -> (∀ k,S k -> S' k) -> (∀ k,S' k -> k < W.heap.size) -> R W S' cs x
theorem Nice.off {α : Type} {R:World -> Foot -> List Value -> α -> Prop} (hR:Nice R) {W W' : World} {S D:Foot} {cs:List Value} {x : α} (h:R W S cs x) (ho:Off D W W') (hn:S.off D):R W' S cs x :=
 hR.keep h fun k hk=>ho.block k (hR.lt h k hk) (hn k hk)
def iO (cs:List Value) (size j:Nat):List Value:=(cs.drop (j * size)).take size
structure OParts {α : Type} (R:World -> Foot -> List Value -> α -> Prop) (e:TypeId) (size:Nat) (W:World) (S:Foot) (v:Value) (xs:List α) (cs:List Value) (G:Foot) (F:Nat -> Foot):Prop where
 row:ORow W G e size v xs.length cs
 el:∀ j x,xs[j]? = some x -> R W (F j) (iO cs size j) x
 apart:∀ i j,i < xs.length -> j < xs.length -> i ≠ j -> (F i).off (F j)
 free:∀ j,j < xs.length -> (F j).off G
 inG:∀ k,G k -> S k
 inF:∀ j k,j < xs.length -> F j k -> S k
 lt:∀ k,S k -> k < W.heap.size
def OSl {α : Type} (R:World -> Foot -> List Value -> α -> Prop) (e:TypeId) (size:Nat) (W:World) (S:Foot) (v:Value) (xs:List α):Prop := ∃ cs G F,OParts R e size W S v xs cs G F
theorem OParts.keep {α : Type} {R:World -> Foot -> List Value -> α -> Prop} (hR:Nice R) {e:TypeId} {size:Nat} {W W' : World} {S:Foot} {v:Value} {xs:List α} {cs:List Value} {G:Foot} {F:Nat -> Foot} (h:OParts R e size W S v xs cs G F)
  (hk:∀ k,S k -> W'.heap[k]? = W.heap[k]?):OParts R e size W' S v xs cs G F :=
 ⟨h.row.keep fun k hg=>hk k (h.inG k hg),fun j x hj=>hR.keep (h.el j x hj) fun k hf=>hk k (h.inF j k (aD.1 hj).1 hf),h.apart,h.free,h.inG,h.inF,fun k hs=>by
  have h1:=hk k hs
  rw [aV (h.lt k hs)] at h1
  exact (aL.1 h1).1⟩
theorem OParts.wide {α : Type} {R:World -> Foot -> List Value -> α -> Prop} {e:TypeId} {size:Nat} {W:World} {S S' : Foot} {v:Value} {xs:List α} {cs:List Value} {G:Foot} {F:Nat -> Foot} (h:OParts R e size W S v xs cs G F)
  (hs:∀ k,S k -> S' k) (hl:∀ k,S' k -> k < W.heap.size):OParts R e size W S' v xs cs G F :=
 ⟨h.row,h.el,h.apart,h.free,fun k hg=>hs k (h.inG k hg),fun j k hj hf=>hs k (h.inF j k hj hf),hl⟩
theorem OSl.nice {α : Type} {R:World -> Foot -> List Value -> α -> Prop} (hR:Nice R) (e:TypeId) (size:Nat):Nice (fun W S cs (xs:List α) => ∃ v,cs=[v]/\OSl R e size W S v xs) where
 keep:=fun ⟨v,hv,cs,G,F,h⟩ hk=>⟨v,hv,cs,G,F,h.keep hR hk⟩
 lt:=fun ⟨v,hv,cs,G,F,h⟩=>h.lt
 wide:=fun ⟨v,hv,cs,G,F,h⟩ hs hl=>⟨v,hv,cs,G,F,h.wide hs hl⟩
theorem OSl.keep {α : Type} {R:World -> Foot -> List Value -> α -> Prop} (hR:Nice R) {e:TypeId} {size:Nat} {W W' : World} {S:Foot} {v:Value} {xs:List α} (h:OSl R e size W S v xs) (hk:∀ k,S k -> W'.heap[k]? = W.heap[k]?):OSl R e size W' S v xs :=
 let ⟨cs,G,F,h⟩:=h; ⟨cs,G,F,h.keep hR hk⟩
theorem OSl.wide {α : Type} {R:World -> Foot -> List Value -> α -> Prop} {e:TypeId} {size:Nat} {W:World} {S S' : Foot} {v:Value} {xs:List α} (h:OSl R e size W S v xs) (hs:∀ k,S k -> S' k) (hl:∀ k,S' k -> k < W.heap.size):OSl R e size W S' v xs :=
 let ⟨cs,G,F,h⟩:=h; ⟨cs,G,F,h.wide hs hl⟩
theorem OSl.lt {α : Type} {R:World -> Foot -> List Value -> α -> Prop} {e:TypeId} {size:Nat} {W:World} {S:Foot} {v:Value} {xs:List α} (h:OSl R e size W S v xs):∀ k,S k -> k < W.heap.size :=
 let ⟨cs,G,F,h⟩:=h;h.lt
theorem OSl.off {α : Type} {R:World -> Foot -> List Value -> α -> Prop} (hR:Nice R) {e:TypeId} {size:Nat} {W W' : World} {S D:Foot} {v:Value} {xs:List α} (h:OSl R e size W S v xs) (ho:Off D W W') (hn:S.off D):OSl R e size W' S v xs :=
 h.keep hR fun k hk=>ho.block k (h.lt k hk) (hn k hk)
theorem OSl.nil {α : Type} {R:World -> Foot -> List Value -> α -> Prop} {e:TypeId} {size:Nat} {W:World} (a:Option Addr):OSl R e size W Foot.none (.slice a 0 0) ([] : List α) :=
 ⟨[],Foot.none,fun _=>Foot.none,ORow.nil a,by simp,fun i j hi=>by simp at hi,fun j hj=>by simp at hj,fun k h=>h,fun j k hj=>by simp at hj,fun k h=>h.elim⟩
theorem OSl.reads {α : Type} {R:World -> Foot -> List Value -> α -> Prop} {R0:World -> List Value -> α -> Prop} {e:TypeId} {size:Nat} {W:World} {S:Foot} {v:Value} {xs:List α} (h:OSl R e size W S v xs) (hr:∀ S cs x,R W S cs x -> R0 W cs x):eT R0 size W v xs :=
 let ⟨cs,G,F,h⟩:=h; ⟨cs,h.row.row,fun j x hj=>hr _ _ _ (h.el j x hj)⟩
theorem OParts.put {α : Type} {R:World -> Foot -> List Value -> α -> Prop} (hR:Nice R) {e:TypeId} {size:Nat} {W W' : World} {S:Foot} {v:Value} {xs:List α} {cs:List Value} {G:Foot} {F:Nat -> Foot} (h:OParts R e size W S v xs cs G F)
  {j:Nat} {x : α} (hj:xs[j]? = some x) (x' : α) {cs' : List Value} {Fj:Foot} (ho:Off (G.or (F j)) W W') (hrow:ORow W' G e size v xs.length cs') (hcs:∀ i,i < xs.length -> i ≠ j -> iO cs' size i=iO cs size i)
  (hel:R W' Fj (iO cs' size j) x') (hF:∀ k,Fj k -> F j k \/ ¬ S k) (S' : Foot) (hS:∀ k,S k -> S' k) (hS2:∀ k,Fj k -> S' k) (hl:∀ k,S' k -> k < W'.heap.size) :
  OParts R e size W' S' v (xs.set j x') cs' G (fun i=>if i=j then Fj else F i):=by
 have hjl:=(aD.1 hj).1
 refine ⟨by rw [cE];exact hrow,fun i y hi => ?_,fun a b ha hb hab k h1 h2 => ?_,fun i hi k h1 h2 => ?_,fun k hg=>hS k (h.inG k hg),fun i k hi h1 => ?_,hl⟩
 ·rw [cC] at hi
  by_cases e1:j=i
  ·subst e1
   simp only [if_true,hjl] at hi
   cases hi
   rw [if_pos rfl];exact hel
  rw [if_neg e1] at hi
  have hil:=(aD.1 hi).1
  rw [if_neg (Ne.symm e1),hcs i hil (Ne.symm e1)]
  refine hR.off (h.el i y hi) ho fun k hk hm => ?_
  rcases hm with hm | hm
  ·exact h.free i hil k hk hm
  exact h.apart i j hil hjl (Ne.symm e1) k hk hm
 ·rw [cE] at ha hb
  by_cases e1:a=j
  ·have e2:b ≠ j:=fun e2=>hab (e1.trans e2.symm)
   rw [if_pos e1] at h1
   rw [if_neg e2] at h2
   rcases hF k h1 with h3 | h3
   ·exact h.apart j b hjl hb (Ne.symm e2) k h3 h2
   exact h3 (h.inF b k hb h2)
  rw [if_neg e1] at h1
  by_cases e2:b=j
  ·rw [if_pos e2] at h2
   rcases hF k h2 with h3 | h3
   ·exact h.apart a j ha hjl e1 k h1 h3
   exact h3 (h.inF a k ha h1)
  rw [if_neg e2] at h2
  exact h.apart a b ha hb hab k h1 h2
 ·rw [cE] at hi
  by_cases e1:i=j
  ·rw [if_pos e1] at h1
   rcases hF k h1 with h3 | h3
   ·exact h.free j hjl k h3 h2
   exact h3 (h.inG k h2)
  rw [if_neg e1] at h1
  exact h.free i hi k h1 h2
 ·rw [cE] at hi
  by_cases e1:i=j
  ·rw [if_pos e1] at h1;exact hS2 k h1
  rw [if_neg e1] at h1;exact hS k (h.inF i k hi h1)
theorem OParts.snoc {α : Type} {R:World -> Foot -> List Value -> α -> Prop} (hR:Nice R) {e:TypeId} {size:Nat} {W W' : World} {S:Foot} {v v' : Value} {xs:List α} {cs:List Value} {G G' : Foot} {F:Nat -> Foot} (h:OParts R e size W S v xs cs G F)
  {x : α} {ds:List Value} {Fn:Foot} (hx:R W Fn ds x) (hFn:Fn.off S) (ho:Off G W W') (hrow:ORow W' G' e size v' (xs.length+1) (cs ++ ds)) (hG:∀ k,G' k -> G k \/ W.heap.size <= k) :
  OParts R e size W' (fun k=>S k \/ Fn k \/ G' k) v' (xs ++ [x]) (cs ++ ds) G' (fun i=>if i=xs.length then Fn else F i):=by
 have hlen:=h.row.len
 have hds:ds.length=size:=by have:=hrow.len;rw [aI,hlen,dY,dZ] at this;omega
 have hFl:∀ i k,i < xs.length -> F i k -> k < W.heap.size:=fun i k hi hf=>h.lt k (h.inF i k hi hf)
 refine ⟨by rw [aI];exact hrow,fun i y hi => ?_,fun a b ha hb hab k h1 h2 => ?_,fun i hi k h1 h2 => ?_,fun k hg=>.inr (.inr hg),fun i k hi h1 => ?_,fun k hk => ?_⟩
 ·have hil:=(aD.1 hi).1
  rw [aI,eH] at hil
  by_cases e1:i=xs.length
  ·subst e1
   rw [bK (aA _),dE] at hi
   cases hi
   rw [if_pos rfl]
   have:iO (cs ++ ds) size xs.length=ds:=by unfold iO;rw [<-hlen,List.drop_left,aH (by omega)]
   rw [this]
   exact hR.off hx ho fun k h1 h2=>hFn k h1 (h.inG k h2)
  have hi2:i < xs.length:=by omega
  rw [dK hi2] at hi
  rw [if_neg e1]
  have hm:i * size+size <= cs.length:=by rw [hlen];have:(i+1) * size <= xs.length * size:=dA _ hi2;rw [dY,dZ] at this;exact this
  have:iO (cs ++ ds) size i=iO cs size i:=by unfold iO;rw [List.drop_append_of_le_length (by omega),List.take_append_of_le_length (by rw [dC];omega)]
  rw [this]
  exact hR.off (h.el i y hi) ho (h.free i hi2)
 ·rw [aI,eH] at ha hb
  by_cases e1:a=xs.length
  ·have e2:b ≠ xs.length:=fun e2=>hab (e1.trans e2.symm)
   rw [if_pos e1] at h1
   rw [if_neg e2] at h2
   exact hFn k h1 (h.inF b k (by omega) h2)
  rw [if_neg e1] at h1
  by_cases e2:b=xs.length
  ·rw [if_pos e2] at h2
   exact hFn k h2 (h.inF a k (by omega) h1)
  rw [if_neg e2] at h2
  exact h.apart a b (by omega) (by omega) hab k h1 h2
 ·rw [aI,eH] at hi
  by_cases e1:i=xs.length
  ·rw [if_pos e1] at h1
   rcases hG k h2 with h3 | h3
   ·exact hFn k h1 (h.inG k h3)
   have:=hR.lt hx k h1;omega
  rw [if_neg e1] at h1
  rcases hG k h2 with h3 | h3
  ·exact h.free i (by omega) k h1 h3
  have:=hFl i k (by omega) h1;omega
 ·rw [aI,eH] at hi
  by_cases e1:i=xs.length
  ·rw [if_pos e1] at h1;exact .inr (.inl h1)
  rw [if_neg e1] at h1;exact .inl (h.inF i k (by omega) h1)
 ·rcases hk with hk | hk | hk
  ·exact bA (h.lt k hk) ho.size
  ·exact bA (hR.lt hx k hk) ho.size
  exact hrow.lt k hk
theorem iC {cs:List Value} {size i j o:Nat} {u:Value} (hij:i ≠ j) (ho:o < size):iO (cs.set (j * size+o) u) size i=iO cs size i:=by
 unfold iO
 apply bH
 intro k
 rw [aW,aW]
 split
 ·rename_i hk
  rw [bS,bS,cC,if_neg]
  intro e
  rcases Nat.lt_or_gt_of_ne hij with h | h
  ·have:(i+1) * size <= j * size:=dA _ h
   rw [dY,dZ] at this;omega
  have:(j+1) * size <= i * size:=dA _ h
  rw [dY,dZ] at this;omega
 rfl
theorem fD {cs:List Value} {size j o:Nat} {u:Value} (ho:o < size):iO (cs.set (j * size+o) u) size j=(iO cs size j).set o u:=by
 unfold iO
 apply bH
 intro k
 rw [aW,cC,aW,bS,cC,bS,aR,dC]
 by_cases hk:o=k
 ·subst hk
  simp only [ho,if_true]
  by_cases hl:j * size+o < cs.length
  ·rw [if_pos hl,if_pos (by omega)]
  rw [if_neg hl,if_neg (by omega)]
 rw [if_neg hk]
 have h1:¬ (j * size+o=j * size+k):=by omega
 simp only [h1,if_false]
theorem aAT {cs:List Value} {n size j:Nat} (h:cs.length=n * size) (hj:j < n):(iO cs size j).length=size:=by
 unfold iO
 rw [aR,dC,h]
 have:(j+1) * size <= n * size:=dA _ hj
 rw [dY,dZ] at this;omega
theorem jI {cs:List Value} {size j i:Nat} (hi:i < size):(iO cs size j)[i]? = cs[j * size+i]?:=by
 unfold iO;rw [aW,if_pos hi,bS]
end Go.Proofs.YtagabiidbbhhmaaGreat
