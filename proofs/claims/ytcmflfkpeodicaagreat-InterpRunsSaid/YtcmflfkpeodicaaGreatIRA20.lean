/- Part 20. -/
import Derived.Test.YtcmflfkpeodicaaGreatIRA11
namespace Go.Proofs.YtcmflfkpeodicaaGreat
set_option linter.all false
section
open Go.RowKit
inductive Steps (tos:Nat -> List Nat):List Nat -> List Bool -> List Nat -> List Bool -> List Nat -> Prop
 | nil (s d):Steps tos [] s d s d
 | skip {t ts s d s' d'}:s[t]? = some true -> Steps tos ts s d s' d' -> Steps tos (t :: ts) s d s' d'
 | go {t ts s d s1 d1 s' d'}:s[t]? = some false -> Steps tos (tos t) (s.set t true) d s1 d1 -> Steps tos ts s1 (d1 ++ [t]) s' d' -> Steps tos (t :: ts) s d s' d'
theorem Steps.append {tos:Nat -> List Nat} {l1 l2:List Nat} {s s1 s2:List Bool} {d d1 d2:List Nat} (h:Steps tos l1 s d s1 d1) (k:Steps tos l2 s1 d1 s2 d2):Steps tos (l1 ++ l2) s d s2 d2:=by
 induction h with
 | nil=>exact k
 | skip h1 _ ih=>exact .skip h1 (ih k)
 | go h1 h2 _ _ ih=>exact .go h1 h2 (ih k)
theorem Steps.len {tos:Nat -> List Nat} {l:List Nat} {s s' : List Bool} {d d' : List Nat} (h:Steps tos l s d s' d'):s'.length=s.length:=by
 induction h with
 | nil=>rfl
 | skip _ _ ih=>exact ih
 | go _ _ _ ih1 ih2=>rw [ih2,ih1,bY]
theorem kA {s:List Bool} {t b:Nat}:(s.set t true)[b]? = some true ↔ (s[b]? = some true \/ (b=t/\t < s.length)):=by
 rw [cP]
 by_cases e:t=b
 ·subst e
  by_cases h:t < s.length
  ·simp [h]
  simp [h,aW (Nat.le_of_not_lt h)]
 simp [e,Ne.symm e]
structure Told' (tos:Nat -> List Nat) (l:List Nat) (s:List Bool) (d:List Nat) (s' : List Bool) (d' : List Nat):Prop where
 ex:∃ D,d' = d ++ D/\D.Nodup/\(∀ b,s'[b]? = some true ↔ (s[b]? = some true \/ b ∈ D))/\(∀ b ∈ D,s[b]? = some false)/\(∀ r ∈ l,s'[r]? = some true) /\
  (∀ b ∈ D, ∀ t ∈ tos b,s'[t]? = some true)/\(∀ (i b:Nat),D[i]? = some b -> b ∈ l \/ ∃ (j p:Nat),i < j/\D[j]? = some p/\b ∈ tos p)
theorem Steps.told {tos:Nat -> List Nat} {l:List Nat} {s s' : List Bool} {d d' : List Nat} (h:Steps tos l s d s' d'):Told' tos l s d s' d':=by
 induction h with
 | nil s d=>exact ⟨⟨[],by simp,by simp,by simp,by simp,by simp,by simp,by simp⟩⟩
 | skip h1 h2 ih =>
  obtain ⟨D,e,h3,h4,h5,h6,h7,h8⟩:=ih
  refine ⟨⟨D,e,h3,h4,h5,fun r hr => ?_,h7,fun i b hb => ?_⟩⟩
  ·rcases bM.1 hr with rfl | hr
   ·exact (h4 _).2 (.inl h1)
   exact h6 r hr
  rcases h8 i b hb with h | h
  ·exact .inl (cL _ h)
  exact .inr h
 | @go t ts s d s1 d1 s' d' h1 h2 h3 ih1 ih2 =>
  obtain ⟨D1,e1,a3,a4,a5,a6,a7,a8⟩:=ih1
  obtain ⟨D2,e2,b3,b4,b5,b6,b7,b8⟩:=ih2
  have htl:t < s.length:=(aE.1 h1).1
  have hs1t:s1[t]? = some true:=(a4 t).2 (.inl (kA.2 (.inr ⟨rfl,htl⟩)))
  have hmono:∀ b,s1[b]? = some true -> s'[b]? = some true:=fun b hb=>(b4 b).2 (.inl hb)
  refine ⟨⟨D1 ++ [t] ++ D2,by rw [e2,e1];simp, ?_,fun b => ?_,fun b hb => ?_,fun r hr => ?_,fun b hb u hu => ?_,fun i b hb => ?_⟩⟩
  ·have n1:t ∉ D1:=fun hm=>by
    have:=a5 t hm
    rw [List.getElem?_set_self (by exact htl)] at this;cases this
   have n2:∀ x ∈ D2,x ∉ D1/\x ≠ t:=fun x hx=>by
    have h0:=b5 x hx
    refine ⟨fun hm => ?_,fun e => ?_⟩
    ·rw [(a4 x).2 (.inr hm)] at h0;cases h0
    rw [e,hs1t] at h0;cases h0
   rw [cE,cE]
   refine ⟨⟨a3,by simp,fun a ha b hb e => ?_⟩,b3,fun a ha b hb e => ?_⟩
   ·simp at hb;subst hb;subst e;exact n1 ha
   ·subst e
    rcases aO.1 ha with ha | ha
    ·exact (n2 a hb).1 ha
    simp at ha;exact (n2 a hb).2 ha
  ·rw [b4,a4,kA]
   simp only [aO,cZ]
   constructor
   ·rintro ((( h | ⟨rfl,_⟩) | h) | h)
    ·exact .inl h
    ·exact .inr (.inl (.inr rfl))
    ·exact .inr (.inl (.inl h))
    exact .inr (.inr h)
   rintro (h | (h | rfl) | h)
   ·exact .inl (.inl (.inl h))
   ·exact .inl (.inr h)
   ·exact .inl (.inl (.inr ⟨rfl,htl⟩))
   exact .inr h
  ·have key:∀ x,s1[x]? = some false -> s[x]? = some false:=fun x hx=>by
    have hlen:=h2.len
    rw [bY] at hlen
    have hxl:x < s.length:=by have:=(aE.1 hx).1;omega
    cases hs:s[x] with
    | false=>rw [aB hxl,hs]
    | true =>
     have:s1[x]? = some true:=(a4 x).2 (.inl (kA.2 (.inl (by rw [aB hxl,hs]))))
     rw [hx] at this;cases this
   rcases aO.1 hb with hb | hb
   ·rcases aO.1 hb with hb | hb
    ·have h0:=a5 b hb
     by_cases e:t=b
     ·subst e;exact h1
     rwa [List.getElem?_set_ne e] at h0
    simp at hb;subst hb;exact h1
   ·exact key b (b5 b hb)
  ·rcases bM.1 hr with rfl | hr
   ·exact hmono _ hs1t
   exact b6 r hr
  ·rcases aO.1 hb with hb | hb
   ·rcases aO.1 hb with hb | hb
    ·exact hmono _ (a7 b hb u hu)
    simp at hb;subst hb;exact hmono _ (a6 u hu)
   exact b7 b hb u hu
  rw [bV,dB] at hb
  split at hb
  ·rename_i hi
   right
   rcases a8 i b hb with h | ⟨j,p,hij,hj,hp⟩
   ·exact ⟨D1.length,t,hi,by simp,h⟩
   refine ⟨j,p,hij, ?_,hp⟩
   rw [bV,dE ((aE.1 hj).1)];exact hj
  rename_i hi
  rw [dB] at hb
  split at hb
  ·rename_i hi2
   left
   have:i - D1.length=0:=by simp at hi2;omega
   rw [this] at hb
   simp at hb
   rw [hb];simp
  rename_i hi2
  simp at hi2
  rcases b8 _ b hb with h | ⟨j,p,hij,hj,hp⟩
  ·exact .inl (cL _ h)
  right
  refine ⟨D1.length+1+j,p,by have h0:=hij;simp only [bB,cD] at h0;omega, ?_,hp⟩
  rw [cI (by simp)]
  simp
  exact hj
theorem Steps.count {tos:Nat -> List Nat} {l:List Nat} {s s' : List Bool} {d d' : List Nat} (h:Steps tos l s d s' d'):s'.count false <= s.count false:=by
 induction h with
 | nil=>exact aF _
 | skip _ _ ih=>exact ih
 | @go t ts s d s1 d1 s' d' h1 _ _ ih1 ih2 =>
  refine aJ ih2 (aJ ih1 ?_)
  have:=(aE.1 h1)
  rw [List.count_set this.1]
  simp
theorem count_set {s:List Bool} {t:Nat} (h:s[t]? = some false):(s.set t true).count false+1=s.count false:=by
 obtain ⟨h1,h2⟩:=aE.1 h
 have h3:0 < s.count false:=List.count_pos_iff.2 (h2 ▸ dJ h1)
 rw [List.count_set h1,h2]
 simp
 omega
theorem Steps.total {tos:Nat -> List Nat} {l:List Nat} {s s' : List Bool} {d d' : List Nat} (h:Steps tos l s d s' d'):d'.length+s'.count false=d.length+s.count false:=by
 induction h with
 | nil=>rfl
 | skip _ _ ih=>exact ih
 | go h1 _ _ ih1 ih2 =>
  have:=count_set h1
  rw [aQ] at ih2
  simp at ih2
  omega
inductive Way (tos:Nat -> List Nat) (gone:Int):Nat -> Prop
 | zero:gone ≠ 0 -> Way tos gone 0
 | step {b t:Nat}:Way tos gone b -> t ∈ tos b -> (t:Int) ≠ gone -> Way tos gone t
theorem Steps.way {tos:Nat -> List Nat} {n:Nat} {s' : List Bool} {d' : List Nat} (h:Steps tos [0] (List.replicate n false) [] s' d'):(∀ b,s'[b]? = some true ↔ Way tos (-1) b)/\(∀ b,b ∈ d' ↔ Way tos (-1) b)/\d'.Nodup /\
  (∀ (i b:Nat),d'[i]? = some b -> b=0 \/ ∃ (j p:Nat),i < j/\d'[j]? = some p/\b ∈ tos p)/\d'.getLast? = some 0:=by
 have hlast:d'.getLast? = some 0:=by
  cases h with
  | skip h1 _ =>
   exfalso
   have:=aE.1 h1
   obtain ⟨hl,he⟩:=this
   simp at he
  | go h1 h2 h3=>cases h3;simp
 obtain ⟨D,e,h3,h4,h5,h6,h7,h8⟩:=h.told
 rw [dW] at e
 subst e
 have hz:∀ b, ¬ (List.replicate n false)[b]? = some true:=fun b hb=>by
  obtain ⟨hl,he⟩:=aE.1 hb
  simp at he
 have h9:∀ b,s'[b]? = some true ↔ b ∈ d':=fun b=>by
  rw [h4];exact ⟨fun h=>h.resolve_left (hz b),.inr⟩
 have hway:∀ b,Way tos (-1) b -> s'[b]? = some true:=fun b hb=>by
  induction hb with
  | zero _=>exact h6 0 (by simp)
  | step _ ht _ ih=>exact h7 _ ((h9 _).1 ih) _ ht
 have hback:∀ (m i b:Nat),d'.length - i <= m -> d'[i]? = some b -> Way tos (-1) b:=by
  intro m
  induction m with
  | zero=>intro i b hm hb;have:=(aE.1 hb).1;omega
  | succ m ih =>
   intro i b hm hb
   rcases h8 i b hb with h | ⟨j,p,hij,hj,hp⟩
   ·simp at h;subst h;exact .zero (by decide)
   exact .step (ih j p (by omega) hj) hp (by omega)
 have h10:∀ b,b ∈ d' ↔ Way tos (-1) b:=fun b=>⟨fun hb=>by
  obtain ⟨i,hi⟩:=bJ.1 hb
  exact hback _ i b (aF _) hi,fun hb=>(h9 b).1 (hway b hb)⟩
 refine ⟨fun b=>(h9 b).trans (h10 b),h10,h3,fun i b hb => ?_,hlast⟩
 rcases h8 i b hb with h | h
 ·left;simpa using h
 ·exact .inr h
end
section
open Go.RowKit
def toB (f:FuncD) (b:Nat):List Nat:=(f.blocks.getD b default).term.to.map Int.toNat
theorem oN {f:FuncD} {b:Nat} {x:BlockD} (h:f.blocks[b]? = some x):toB f b=x.term.to.map Int.toNat:=by
 unfold toB;rw [aH,h];rfl
theorem mV {f:FuncD} (h:gM f=true) {b:Nat} {x:BlockD} (hx:f.blocks[b]? = some x):∀ t ∈ x.term.to,1 <= t/\t < (f.blocks.length:Int):=by
 unfold gM at h
 simp only [aN,aZ] at h
 have h1:=h.2 (x,b) (by rw [bS];exact hx)
 unfold fN gS at h1
 simp only [aN,aZ] at h1
 intro t ht
 have:=h1.2.1 t ht
 simpa using this
theorem gV {f:FuncD} (h:gM f=true):1 <= f.blocks.length/\f.blocks.length <= 512:=by
 unfold gM iH at h
 simp only [aN,decide_eq_true_eq] at h
 exact ⟨h.1.1.1.1.2,h.1.1.1.2⟩
structure Kept (bs:List Nat) (v v' : Value) (W W' : World):Prop where
 os:W'.os=W.os
 tape:W'.tape=W.tape
 output:W'.output=W.output
 size:W.heap.size <= W'.heap.size
 block:∀ k,k < W.heap.size -> k ∉ bs -> v.ownBlock ≠ some k -> W'.heap[k]? = W.heap[k]?
 own:∀ k,v'.ownBlock=some k -> v.ownBlock=some k \/ W.heap.size <= k
theorem Kept.refl (bs:List Nat) (v:Value) (W:World):Kept bs v v W W:=⟨rfl,rfl,rfl,aF _,fun _ _ _ _=>rfl,fun k h=>.inl h⟩
theorem Kept.trans {bs:List Nat} {u v x:Value} {a b c:World} (h:Kept bs u v a b) (k:Kept bs v x b c):Kept bs u x a c :=
 ⟨k.os.trans h.os,k.tape.trans h.tape,k.output.trans h.output,aJ h.size k.size,
  fun i hi hn ho=>(k.block i (aL hi h.size) hn fun e=>by rcases h.own i e with h1 | h1 <;> first | exact ho h1 | omega).trans (h.block i hi hn ho),
  fun i hi=>by rcases k.own i hi with h1 | h1 <;> first | exact h.own i h1 | exact .inr (aJ h.size h1)⟩
theorem Kept.of_below {bs:List Nat} {v:Value} {a b:World} (h:Below a.heap.size a b):Kept bs v v a b:=⟨h.os,h.tape,h.output,h.size,fun k hk _ _=>h.block k hk,fun k h=>.inl h⟩
theorem Kept.set {bs:List Nat} {v:Value} (a:World) {p:Addr} (x:Value) (hp:p.block ∈ bs):Kept bs v v a (a.setCell p x):=by
 refine ⟨rfl,rfl,rfl,by simp,fun k hk hn _ => ?_,fun k h=>.inl h⟩
 exact Below.heap_setCell a p x k fun e=>hn (e ▸ hp)
theorem Kept.below {bs:List Nat} {v v' : Value} {a b w:World} (h:Kept bs v v' a b) (hw:Below w.heap.size w a) (hb:∀ x ∈ bs,w.heap.size <= x) (hv:∀ k,v.ownBlock=some k -> w.heap.size <= k):Below w.heap.size w b :=
 ⟨h.os.trans hw.os,h.tape.trans hw.tape,h.output.trans hw.output,aJ hw.size h.size,fun k hk =>
  (h.block k (aL hk hw.size) (fun hm=>by have:=hb k hm;omega) (fun e=>by have:=hv k e;omega)).trans (hw.block k hk)⟩
theorem Box.kept {W W' : World} {b:Nat} {A:Array Value} {bs:List Nat} {v v' : Value} (h:Box W b A) (ht:Kept bs v v' W W') (hb:b ∉ bs) (hv:v.ownBlock ≠ some b):Box W' b A:=by
 have hh:=ht.block b h.lt hb hv
 exact ⟨aL h.lt ht.size,fun o=>(World.cell?_of_block (w:=W) (a:=⟨b,o,none⟩) hh).trans (h.cell o),fun o=>(World.frozen?_of_block (w:=W) (a:=⟨b,o,none⟩) hh).trans (h.free o)⟩
structure VisN where
 bb:Nat
 B:Nat
 fb:Nat
 vb:Nat
 gb:Nat
 bg:Nat
def VisN.list (N:VisN):List Nat:=[N.bb,N.B,N.fb,N.vb,N.gb,N.bg]
def VisN.caps (N:VisN):Array Value:=#[.pointer (some ⟨N.bb,0,none⟩),.pointer (some ⟨N.fb,0,none⟩),.pointer (some ⟨N.vb,0,none⟩),.pointer (some ⟨N.gb,0,none⟩)]
def fX (s:List Bool):Array Value:=(s.map Value.bool).toArray
theorem jQ {s:List Bool} {b:Nat} {x:Bool} (h:s[b]? = some x):(fX s)[b]? = some (.bool x):=by unfold fX;simp [h]
theorem lV (s:List Bool) (b:Nat) (x:Bool):(fX s).setIfInBounds b (.bool x)=fX (s.set b x):=by
 unfold fX
 rw [aA,List.map_set]
structure VisI (N:VisN) (base nb:Nat) (fa:Array Value) (pv lv:Value) (W:World) (s:List Bool) (d:List Nat) (ov:Value):Prop where
 begun:Box W N.bb #[.slice (some ⟨N.B,0,none⟩) nb nb]
 flags:Box W N.B (fX s)
 fbox:Box W N.fb fa
 vis:Box W N.vb #[.func (.func 212) #[] N.caps]
 gvar:Box W N.gb #[.pointer (some ⟨N.bg,0,none⟩)]
 graph:Box W N.bg (fa ++ #[pv,ov,lv])
 own:Own W base N.list 3 1 ov d.length (d.map fun x:Nat=>Value.int .i64 x)
 len:s.length=nb
 nodup:N.list.Nodup
theorem VisI.later {N:VisN} {base nb:Nat} {fa:Array Value} {pv lv:Value} {W W' : World} {s:List Bool} {d:List Nat} {ov:Value} (h:VisI N base nb fa pv lv W s d ov) (hb:Below W.heap.size W W'):VisI N base nb fa pv lv W' s d ov :=
 ⟨h.begun.later hb,h.flags.later hb,h.fbox.later hb,h.vis.later hb,h.gvar.later hb,h.graph.later hb,h.own.later hb,h.len,h.nodup⟩
theorem VisI.flag {N:VisN} {base nb:Nat} {fa:Array Value} {pv lv:Value} {W:World} {s:List Bool} {d:List Nat} {ov:Value} (h:VisI N base nb fa pv lv W s d ov) (b:Nat) (x:Bool):VisI N base nb fa pv lv (W.setCell ⟨N.B,b,none⟩ (.bool x)) (s.set b x) d ov:=by
 have hn:=h.nodup
 unfold VisN.list at hn
 simp only [eI,bM,dS,or_false,not_or] at hn
 obtain ⟨⟨n1,n2,n3,n4,n5⟩,⟨n6,n7,n8,n9⟩,_⟩:=hn
 refine ⟨h.begun.other _ n1, ?_,h.fbox.other _ (Ne.symm n6),h.vis.other _ (Ne.symm n7),h.gvar.other _ (Ne.symm n8),h.graph.other _ (Ne.symm n9),h.own.other _ (by simp [VisN.list]),by rw [bY];exact h.len,h.nodup⟩
 have:=h.flags.set b (.bool x)
 rwa [lV] at this
end
open Go.RowKit
abbrev Foot:=Nat -> Prop
def Foot.or (A B:Foot):Foot:=fun k=>A k \/ B k
def Foot.none:Foot:=fun _=>False
def Foot.one (g:Nat):Foot:=fun k=>k=g
def Foot.off (A B:Foot):Prop := ∀ k,A k -> ¬ B k
theorem Foot.off.symm {A B:Foot} (h:A.off B):B.off A:=fun k hb ha=>h k ha hb
structure Off (S:Foot) (W W' : World):Prop where
 os:W'.os=W.os
 tape:W'.tape=W.tape
 output:W'.output=W.output
 size:W.heap.size <= W'.heap.size
 block:∀ k,k < W.heap.size -> ¬ S k -> W'.heap[k]? = W.heap[k]?
theorem Off.refl (S:Foot) (W:World):Off S W W:=⟨rfl,rfl,rfl,aF _,fun _ _ _=>rfl⟩
theorem Off.trans {S:Foot} {A B C:World} (h:Off S A B) (k:Off S B C):Off S A C :=
 ⟨k.os.trans h.os,k.tape.trans h.tape,k.output.trans h.output,aJ h.size k.size,fun i hi hn=>(k.block i (aL hi h.size) hn).trans (h.block i hi hn)⟩
theorem Off.mono {S S' : Foot} {W W' : World} (h:Off S W W') (hs:∀ k,k < W.heap.size -> S k -> S' k):Off S' W W' :=
 ⟨h.os,h.tape,h.output,h.size,fun k hk hn=>h.block k hk fun hm=>hn (hs k hk hm)⟩
theorem Off.of_below {W W' : World} (h:Below W.heap.size W W') (S:Foot):Off S W W':=⟨h.os,h.tape,h.output,h.size,fun k hk _=>h.block k hk⟩
theorem Off.below {S:Foot} {W W' : World} (h:Off S W W') {base:Nat} (hb:base <= W.heap.size) (hS:∀ k,k < W.heap.size -> S k -> base <= k):Below base W W' :=
 ⟨h.os,h.tape,h.output,h.size,fun k hk=>h.block k (by omega) fun hm=>by have:=hS k (by omega) hm;omega⟩
theorem Off.set (W:World) (p:Addr) (u:Value):Off (Foot.one p.block) W (W.setCell p u) :=
 ⟨rfl,rfl,rfl,by simp [World.setCell],fun k _ hn=>Below.heap_setCell W p u k hn⟩
theorem Off.alloc (S:Foot) (W:World) (o:Obj):Off S W (W.alloc o):=.of_below ((Below.refl _ _).alloc (aF _) o) S
theorem Off.grown {S:Foot} {W W' : World} {row:Option Nat} (hg:W.grownBy W' row) (hS:∀ k,row=some k -> S k):Off S W W' :=
 ⟨hg.os,hg.tape,hg.output,hg.size,fun k hk hn=>hg.block k hk fun e=>hn (hS k e.symm)⟩
theorem Box.off {W W' : World} {b:Nat} {A:Array Value} (h:Box W b A) {S:Foot} (ho:Off S W W') (hn:¬ S b):Box W' b A:=by
 have hh:=ho.block b h.lt hn
 exact ⟨aL h.lt ho.size,fun o=>(World.cell?_of_block (w:=W) (a:=⟨b,o,none⟩) hh).trans (h.cell o),fun o=>(World.frozen?_of_block (w:=W) (a:=⟨b,o,none⟩) hh).trans (h.free o)⟩
structure ORow (W:World) (G:Foot) (e:TypeId) (size:Nat) (v:Value) (n:Nat) (cs:List Value):Prop where
 len:cs.length=n * size
 big:n <= 17592186044416
 lt:∀ k,G k -> k < W.heap.size
 form:(n=0 /\ ∃ a,v = .slice a 0 0) \/ ∃ g cap cur,v = .slice (some ⟨g,0,none⟩) n cap/\G g/\W.heap[g]? = some (.cells cur e (0,0))/\n <= cap/\cap <= maxLen/\cur.size=cap * size/\cur.toList.take (n * size)=cs
theorem ORow.keep {W W' : World} {G:Foot} {e:TypeId} {size:Nat} {v:Value} {n:Nat} {cs:List Value} (h:ORow W G e size v n cs) (hk:∀ k,G k -> W'.heap[k]? = W.heap[k]?):ORow W' G e size v n cs:=by
 refine ⟨h.len,h.big,fun k hg => ?_, ?_⟩
 ·have h1:=hk k hg
  rw [bC (h.lt k hg)] at h1
  exact (aS.1 h1).1
 rcases h.form with h1 | ⟨g,cap,cur,hv,hg,hh,r⟩
 ·exact .inl h1
 exact .inr ⟨g,cap,cur,hv,hg,(hk g hg).trans hh,r⟩
theorem ORow.wide {W:World} {G G' : Foot} {e:TypeId} {size:Nat} {v:Value} {n:Nat} {cs:List Value} (h:ORow W G e size v n cs) (hs:∀ k,G k -> G' k) (hl:∀ k,G' k -> k < W.heap.size):ORow W G' e size v n cs:=by
 refine ⟨h.len,h.big,hl, ?_⟩
 rcases h.form with h1 | ⟨g,cap,cur,hv,hg,r⟩
 ·exact .inl h1
 exact .inr ⟨g,cap,cur,hv,hs g hg,r⟩
theorem ORow.of_own {W:World} {base:Nat} {e:TypeId} {size:Nat} {v:Value} {n:Nat} {cs:List Value} (h:W.ownsRow base e size v n cs) (hn:n <= 17592186044416) {G:Foot} (hG:∀ k,v.ownBlock=some k -> G k) (hl:∀ k,G k -> k < W.heap.size):ORow W G e size v n cs:=by
 refine ⟨h.1,hn,hl, ?_⟩
 rcases h.2 with ⟨rfl,rfl⟩ | ⟨g,cap,cur,rfl,_,r⟩
 ·exact .inl ⟨rfl,_,rfl⟩
 exact .inr ⟨g,cap,cur,rfl,hG g rfl,r⟩
theorem ORow.addr {W:World} {G:Foot} {e:TypeId} {size:Nat} {v:Value} {n:Nat} {cs:List Value} (h:ORow W G e size v n cs) (hn:0 < n) :
  ∃ g cap,v = .slice (some ⟨g,0,none⟩) n cap/\G g/\n <= cap/\cap <= maxLen/\g < W.heap.size/\(∀ i u,cs[i]? = some u -> W.cell? ⟨g,i,none⟩=some u) /\ ∀ i,W.frozen? ⟨g,i,none⟩=false:=by
 rcases h.form with ⟨rfl,_⟩ | ⟨g,cap,cur,rfl,hg,hh,h1,h2,h3,h4⟩
 ·omega
 ·refine ⟨g,cap,rfl,hg,h1,h2,h.lt g hg,fun i u hi => ?_,fun i => ?_⟩
  ·rw [<-h4,bE] at hi
   split at hi
   ·simp only [World.cell?,hh];simpa using hi
   cases hi
  simp [World.frozen?,hh]
theorem ORow.row {W:World} {G:Foot} {e:TypeId} {size:Nat} {v:Value} {n:Nat} {cs:List Value} (h:ORow W G e size v n cs):Row W v n size cs:=by
 rcases h.form with ⟨rfl,a,rfl⟩ | ⟨g,cap,cur,rfl,hg,hh,h1,h2,h3,h4⟩
 ·have hl:=h.len
  rw [Nat.zero_mul] at hl
  have:=cJ hl
  subst this
  exact ⟨by simp,by simp,a,0,rfl,aF _,by unfold maxLen;omega,fun _=>⟨rfl,rfl⟩,fun ad ha j u hj=>by simp at hj⟩
 refine ⟨h.len,h.big,some ⟨g,0,none⟩,cap,rfl,h1,h2,by simp,fun ad ha j u hj => ?_⟩
 cases ha
 rw [sY,bH]
 rw [<-h4,bE] at hj
 split at hj
 ·simp only [World.cell?,hh];simpa using hj
 cases hj
theorem ORow.set {W:World} {G:Foot} {e:TypeId} {size:Nat} {v:Value} {n:Nat} {cs:List Value} (h:ORow W G e size v n cs) {g cap:Nat} (hv:v = .slice (some ⟨g,0,none⟩) n cap) (hn:0 < n) (i:Nat) (u:Value):ORow (W.setCell ⟨g,i,none⟩ u) G e size v n (cs.set i u):=by
 refine ⟨by rw [List.length_set];exact h.len,h.big,fun k hk=>by simpa [World.setCell] using h.lt k hk, ?_⟩
 rcases h.form with ⟨rfl,_⟩ | ⟨g',cap',cur,hv',hg,hh,h1,h2,h3,h4⟩
 ·omega
 rw [hv] at hv'
 cases hv'
 refine .inr ⟨g,cap,cur.setIfInBounds i u,hv,hg, ?_,h1,h2,by simpa using h3, ?_⟩
 ·have hlt:=(aS.1 hh).1
  have hk:=(aS.1 hh).2
  show (W.heap.modify g _)[g]? = _
  rw [bC (by rw [Array.size_modify];exact hlt),Array.getElem_modify_self,hk]
  rfl
 rw [<-h4,Array.toList_setIfInBounds,List.take_set]
theorem ORow.nil {W:World} {e:TypeId} {size:Nat} (a:Option Addr):ORow W Foot.none e size (.slice a 0 0) 0 []:=⟨by simp,by omega,fun k h=>h.elim,.inl ⟨rfl,a,rfl⟩⟩
theorem ORow.off {W W' : World} {G:Foot} {e:TypeId} {size:Nat} {v:Value} {n:Nat} {cs:List Value} (h:ORow W G e size v n cs) {S:Foot} (ho:Off S W W') (hn:G.off S):ORow W' G e size v n cs :=
 h.keep fun k hk=>ho.block k (h.lt k hk) (hn k hk)
structure Nice {α : Type} (R:World -> Foot -> List Value -> α -> Prop):Prop where
 keep:∀ {W W' : World} {S:Foot} {cs:List Value} {x : α},R W S cs x -> (∀ k,S k -> W'.heap[k]? = W.heap[k]?) -> R W' S cs x
 lt:∀ {W:World} {S:Foot} {cs:List Value} {x : α},R W S cs x -> ∀ k,S k -> k < W.heap.size
 wide:∀ {W:World} {S S' : Foot} {cs:List Value} {x : α},R W S cs x -> (∀ k,S k -> S' k) -> (∀ k,S' k -> k < W.heap.size) -> R W S' cs x
theorem Nice.off {α : Type} {R:World -> Foot -> List Value -> α -> Prop} (hR:Nice R) {W W' : World} {S D:Foot} {cs:List Value} {x : α} (h:R W S cs x) (ho:Off D W W') (hn:S.off D):R W' S cs x :=
 hR.keep h fun k hk=>ho.block k (hR.lt h k hk) (hn k hk)
def oO (cs:List Value) (size j:Nat):List Value:=(cs.drop (j * size)).take size
structure OParts {α : Type} (R:World -> Foot -> List Value -> α -> Prop) (e:TypeId) (size:Nat) (W:World) (S:Foot) (v:Value) (xs:List α) (cs:List Value) (G:Foot) (F:Nat -> Foot):Prop where
 row:ORow W G e size v xs.length cs
 el:∀ j x,xs[j]? = some x -> R W (F j) (oO cs size j) x
 apart:∀ i j,i < xs.length -> j < xs.length -> i ≠ j -> (F i).off (F j)
 free:∀ j,j < xs.length -> (F j).off G
 inG:∀ k,G k -> S k
 inF:∀ j k,j < xs.length -> F j k -> S k
 lt:∀ k,S k -> k < W.heap.size
def OSl {α : Type} (R:World -> Foot -> List Value -> α -> Prop) (e:TypeId) (size:Nat) (W:World) (S:Foot) (v:Value) (xs:List α):Prop := ∃ cs G F,OParts R e size W S v xs cs G F
theorem OParts.keep {α : Type} {R:World -> Foot -> List Value -> α -> Prop} (hR:Nice R) {e:TypeId} {size:Nat} {W W' : World} {S:Foot} {v:Value} {xs:List α} {cs:List Value} {G:Foot} {F:Nat -> Foot} (h:OParts R e size W S v xs cs G F)
  (hk:∀ k,S k -> W'.heap[k]? = W.heap[k]?):OParts R e size W' S v xs cs G F :=
 ⟨h.row.keep fun k hg=>hk k (h.inG k hg),fun j x hj=>hR.keep (h.el j x hj) fun k hf=>hk k (h.inF j k (aE.1 hj).1 hf),h.apart,h.free,h.inG,h.inF,fun k hs=>by
  have h1:=hk k hs
  rw [bC (h.lt k hs)] at h1
  exact (aS.1 h1).1⟩
theorem OParts.wide {α : Type} {R:World -> Foot -> List Value -> α -> Prop} {e:TypeId} {size:Nat} {W:World} {S S' : Foot} {v:Value} {xs:List α} {cs:List Value} {G:Foot} {F:Nat -> Foot} (h:OParts R e size W S v xs cs G F)
  (hs:∀ k,S k -> S' k) (hl:∀ k,S' k -> k < W.heap.size):OParts R e size W S' v xs cs G F :=
 ⟨h.row,h.el,h.apart,h.free,fun k hg=>hs k (h.inG k hg),fun j k hj hf=>hs k (h.inF j k hj hf),hl⟩
theorem OSl.nice {α : Type} {R:World -> Foot -> List Value -> α -> Prop} (hR:Nice R) (e:TypeId) (size:Nat):Nice (fun W S cs (xs:List α) => ∃ v,cs=[v]/\OSl R e size W S v xs) where
 keep:=fun ⟨v,hv,cs,G,F,h⟩ hk=>⟨v,hv,cs,G,F,h.keep hR hk⟩
 lt:=fun ⟨v,hv,cs,G,F,h⟩=>h.lt
 wide:=fun ⟨v,hv,cs,G,F,h⟩ hs hl=>⟨v,hv,cs,G,F,h.wide hs hl⟩
theorem OSl.keep {α : Type} {R:World -> Foot -> List Value -> α -> Prop} (hR:Nice R) {e:TypeId} {size:Nat} {W W' : World} {S:Foot} {v:Value} {xs:List α} (h:OSl R e size W S v xs) (hk:∀ k,S k -> W'.heap[k]? = W.heap[k]?):OSl R e size W' S v xs :=
 let ⟨cs,G,F,h⟩:=h; ⟨cs,G,F,h.keep hR hk⟩
theorem OSl.wide {α : Type} {R:World -> Foot -> List Value -> α -> Prop} {e:TypeId} {size:Nat} {W:World} {S S' : Foot} {v:Value} {xs:List α} (h:OSl R e size W S v xs) (hs:∀ k,S k -> S' k) (hl:∀ k,S' k -> k < W.heap.size):OSl R e size W S' v xs :=
 let ⟨cs,G,F,h⟩:=h; ⟨cs,G,F,h.wide hs hl⟩
theorem OSl.lt {α : Type} {R:World -> Foot -> List Value -> α -> Prop} {e:TypeId} {size:Nat} {W:World} {S:Foot} {v:Value} {xs:List α} (h:OSl R e size W S v xs):∀ k,S k -> k < W.heap.size :=
 let ⟨cs,G,F,h⟩:=h;h.lt
theorem OSl.off {α : Type} {R:World -> Foot -> List Value -> α -> Prop} (hR:Nice R) {e:TypeId} {size:Nat} {W W' : World} {S D:Foot} {v:Value} {xs:List α} (h:OSl R e size W S v xs) (ho:Off D W W') (hn:S.off D):OSl R e size W' S v xs :=
 h.keep hR fun k hk=>ho.block k (h.lt k hk) (hn k hk)
theorem OSl.nil {α : Type} {R:World -> Foot -> List Value -> α -> Prop} {e:TypeId} {size:Nat} {W:World} (a:Option Addr):OSl R e size W Foot.none (.slice a 0 0) ([] : List α) :=
 ⟨[],Foot.none,fun _=>Foot.none,ORow.nil a,by simp,fun i j hi=>by simp at hi,fun j hj=>by simp at hj,fun k h=>h,fun j k hj=>by simp at hj,fun k h=>h.elim⟩
theorem OSl.reads {α : Type} {R:World -> Foot -> List Value -> α -> Prop} {R0:World -> List Value -> α -> Prop} {e:TypeId} {size:Nat} {W:World} {S:Foot} {v:Value} {xs:List α} (h:OSl R e size W S v xs) (hr:∀ S cs x,R W S cs x -> R0 W cs x):eQ R0 size W v xs :=
 let ⟨cs,G,F,h⟩:=h; ⟨cs,h.row.row,fun j x hj=>hr _ _ _ (h.el j x hj)⟩
theorem OParts.put {α : Type} {R:World -> Foot -> List Value -> α -> Prop} (hR:Nice R) {e:TypeId} {size:Nat} {W W' : World} {S:Foot} {v:Value} {xs:List α} {cs:List Value} {G:Foot} {F:Nat -> Foot} (h:OParts R e size W S v xs cs G F)
  {j:Nat} {x : α} (hj:xs[j]? = some x) (x' : α) {cs' : List Value} {Fj:Foot} (ho:Off (G.or (F j)) W W') (hrow:ORow W' G e size v xs.length cs') (hcs:∀ i,i < xs.length -> i ≠ j -> oO cs' size i=oO cs size i)
  (hel:R W' Fj (oO cs' size j) x') (hF:∀ k,Fj k -> F j k \/ ¬ S k) (S' : Foot) (hS:∀ k,S k -> S' k) (hS2:∀ k,Fj k -> S' k) (hl:∀ k,S' k -> k < W'.heap.size) :
  OParts R e size W' S' v (xs.set j x') cs' G (fun i=>if i=j then Fj else F i):=by
 have hjl:=(aE.1 hj).1
 refine ⟨by rw [bY];exact hrow,fun i y hi => ?_,fun a b ha hb hab k h1 h2 => ?_,fun i hi k h1 h2 => ?_,fun k hg=>hS k (h.inG k hg),fun i k hi h1 => ?_,hl⟩
 ·rw [cP] at hi
  by_cases e1:j=i
  ·subst e1
   simp only [if_true,hjl] at hi
   cases hi
   rw [if_pos rfl];exact hel
  rw [if_neg e1] at hi
  have hil:=(aE.1 hi).1
  rw [if_neg (Ne.symm e1),hcs i hil (Ne.symm e1)]
  refine hR.off (h.el i y hi) ho fun k hk hm => ?_
  rcases hm with hm | hm
  ·exact h.free i hil k hk hm
  exact h.apart i j hil hjl (Ne.symm e1) k hk hm
 ·rw [bY] at ha hb
  by_cases e1:a=j
  ·have e2:b ≠ j:=fun e2=>hab (e1.trans e2.symm)
   rw [if_pos e1] at h1
   rw [if_neg e2] at h2
   rcases hF k h1 with h3 | h3
   ·exact h.apart j b hjl hb (Ne.symm e2) k h3 h2
   exact h3 (h.inF b k hb h2)
  rw [if_neg e1] at h1
  by_cases e2:b=j
  ·rw [if_pos e2] at h2
   rcases hF k h2 with h3 | h3
   ·exact h.apart a j ha hjl e1 k h1 h3
   exact h3 (h.inF a k ha h1)
  rw [if_neg e2] at h2
  exact h.apart a b ha hb hab k h1 h2
 ·rw [bY] at hi
  by_cases e1:i=j
  ·rw [if_pos e1] at h1
   rcases hF k h1 with h3 | h3
   ·exact h.free j hjl k h3 h2
   exact h3 (h.inG k h2)
  rw [if_neg e1] at h1
  exact h.free i hi k h1 h2
 ·rw [bY] at hi
  by_cases e1:i=j
  ·rw [if_pos e1] at h1;exact hS2 k h1
  rw [if_neg e1] at h1;exact hS k (h.inF i k hi h1)
theorem OParts.snoc {α : Type} {R:World -> Foot -> List Value -> α -> Prop} (hR:Nice R) {e:TypeId} {size:Nat} {W W' : World} {S:Foot} {v v' : Value} {xs:List α} {cs:List Value} {G G' : Foot} {F:Nat -> Foot} (h:OParts R e size W S v xs cs G F)
  {x : α} {ds:List Value} {Fn:Foot} (hx:R W Fn ds x) (hFn:Fn.off S) (ho:Off G W W') (hrow:ORow W' G' e size v' (xs.length+1) (cs ++ ds)) (hG:∀ k,G' k -> G k \/ W.heap.size <= k) :
  OParts R e size W' (fun k=>S k \/ Fn k \/ G' k) v' (xs ++ [x]) (cs ++ ds) G' (fun i=>if i=xs.length then Fn else F i):=by
 have hlen:=h.row.len
 have hds:ds.length=size:=by have:=hrow.len;rw [aQ,hlen,Nat.add_mul,Nat.one_mul] at this;omega
 have hFl:∀ i k,i < xs.length -> F i k -> k < W.heap.size:=fun i k hi hf=>h.lt k (h.inF i k hi hf)
 refine ⟨by rw [aQ];exact hrow,fun i y hi => ?_,fun a b ha hb hab k h1 h2 => ?_,fun i hi k h1 h2 => ?_,fun k hg=>.inr (.inr hg),fun i k hi h1 => ?_,fun k hk => ?_⟩
 ·have hil:=(aE.1 hi).1
  rw [aQ,dL] at hil
  by_cases e1:i=xs.length
  ·subst e1
   rw [cI (aF _),Nat.sub_self] at hi
   cases hi
   rw [if_pos rfl]
   have:oO (cs ++ ds) size xs.length=ds:=by unfold oO;rw [<-hlen,List.drop_left,aI (by omega)]
   rw [this]
   exact hR.off hx ho fun k h1 h2=>hFn k h1 (h.inG k h2)
  have hi2:i < xs.length:=by omega
  rw [dE hi2] at hi
  rw [if_neg e1]
  have hm:i * size+size <= cs.length:=by rw [hlen];have:(i+1) * size <= xs.length * size:=eD _ hi2;rw [Nat.add_mul,Nat.one_mul] at this;exact this
  have:oO (cs ++ ds) size i=oO cs size i:=by unfold oO;rw [List.drop_append_of_le_length (by omega),List.take_append_of_le_length (by rw [dT];omega)]
  rw [this]
  exact hR.off (h.el i y hi) ho (h.free i hi2)
 ·rw [aQ,dL] at ha hb
  by_cases e1:a=xs.length
  ·have e2:b ≠ xs.length:=fun e2=>hab (e1.trans e2.symm)
   rw [if_pos e1] at h1
   rw [if_neg e2] at h2
   exact hFn k h1 (h.inF b k (by omega) h2)
  rw [if_neg e1] at h1
  by_cases e2:b=xs.length
  ·rw [if_pos e2] at h2
   exact hFn k h2 (h.inF a k (by omega) h1)
  rw [if_neg e2] at h2
  exact h.apart a b (by omega) (by omega) hab k h1 h2
 ·rw [aQ,dL] at hi
  by_cases e1:i=xs.length
  ·rw [if_pos e1] at h1
   rcases hG k h2 with h3 | h3
   ·exact hFn k h1 (h.inG k h3)
   have:=hR.lt hx k h1;omega
  rw [if_neg e1] at h1
  rcases hG k h2 with h3 | h3
  ·exact h.free i (by omega) k h1 h3
  have:=hFl i k (by omega) h1;omega
 ·rw [aQ,dL] at hi
  by_cases e1:i=xs.length
  ·rw [if_pos e1] at h1;exact .inr (.inl h1)
  rw [if_neg e1] at h1;exact .inl (h.inF i k (by omega) h1)
 ·rcases hk with hk | hk | hk
  ·exact aL (h.lt k hk) ho.size
  ·exact aL (hR.lt hx k hk) ho.size
  exact hrow.lt k hk
theorem vB {cs:List Value} {size j i:Nat} (hi:i < size):(oO cs size j)[i]? = cs[j * size+i]?:=by
 unfold oO;rw [bE,if_pos hi,cH]
end Go.Proofs.YtcmflfkpeodicaaGreat
