/- Part 20. -/
import Derived.Test.YtagabiidbbhhmaaGreatEB11
namespace Go.Proofs.YtagabiidbbhhmaaGreat
set_option linter.all false
section
open Go.RowKit
inductive Steps (tos:Nat -> List Nat):List Nat -> List Bool -> List Nat -> List Bool -> List Nat -> Prop
 | nil (s d):Steps tos [] s d s d
 | skip {t ts s d s' d'}:s[t]? = some true -> Steps tos ts s d s' d' -> Steps tos (t :: ts) s d s' d'
 | go {t ts s d s1 d1 s' d'}:s[t]? = some false -> Steps tos (tos t) (s.set t true) d s1 d1 -> Steps tos ts s1 (d1 ++ [t]) s' d' -> Steps tos (t :: ts) s d s' d'
theorem Steps.append {tos:Nat -> List Nat} {l1 l2:List Nat} {s s1 s2:List Bool} {d d1 d2:List Nat} (h:Steps tos l1 s d s1 d1) (k:Steps tos l2 s1 d1 s2 d2):Steps tos (l1 ++ l2) s d s2 d2:=by
 induction h with
 | nil=>exact k
 | skip h1 _ ih=>exact .skip h1 (ih k)
 | go h1 h2 _ _ ih=>exact .go h1 h2 (ih k)
theorem Steps.det {tos:Nat -> List Nat} {l:List Nat} {s s1 s2:List Bool} {d d1 d2:List Nat} (h:Steps tos l s d s1 d1) (k:Steps tos l s d s2 d2):s1=s2/\d1=d2:=by
 induction h generalizing s2 d2 with
 | nil=>cases k;exact ⟨rfl,rfl⟩
 | skip h1 _ ih =>
  cases k with
  | skip _ k2=>exact ih k2
  | go k1 _ _=>rw [h1] at k1;cases k1
 | go h1 _ _ ih1 ih2 =>
  cases k with
  | skip k1 _=>rw [h1] at k1;cases k1
  | go _ k2 k3 =>
   obtain ⟨rfl,rfl⟩:=ih1 k2
   exact ih2 k3
theorem Steps.len {tos:Nat -> List Nat} {l:List Nat} {s s' : List Bool} {d d' : List Nat} (h:Steps tos l s d s' d'):s'.length=s.length:=by
 induction h with
 | nil=>rfl
 | skip _ _ ih=>exact ih
 | go _ _ _ ih1 ih2=>rw [ih2,ih1,cE]
theorem jU {s:List Bool} {t b:Nat}:(s.set t true)[b]? = some true ↔ (s[b]? = some true \/ (b=t/\t < s.length)):=by
 rw [cC]
 by_cases e:t=b
 ·subst e
  by_cases h:t < s.length
  ·simp [h]
  simp [h,aS (Nat.le_of_not_lt h)]
 simp [e,Ne.symm e]
structure Told' (tos:Nat -> List Nat) (l:List Nat) (s:List Bool) (d:List Nat) (s' : List Bool) (d' : List Nat):Prop where
 ex:∃ D,d' = d ++ D/\D.Nodup/\(∀ b,s'[b]? = some true ↔ (s[b]? = some true \/ b ∈ D))/\(∀ b ∈ D,s[b]? = some false)/\(∀ r ∈ l,s'[r]? = some true) /\
  (∀ b ∈ D, ∀ t ∈ tos b,s'[t]? = some true)/\(∀ (i b:Nat),D[i]? = some b -> b ∈ l \/ ∃ (j p:Nat),i < j/\D[j]? = some p/\b ∈ tos p)
theorem Steps.told {tos:Nat -> List Nat} {l:List Nat} {s s' : List Bool} {d d' : List Nat} (h:Steps tos l s d s' d'):Told' tos l s d s' d':=by
 induction h with
 | nil s d=>exact ⟨⟨[],by simp,by simp,by simp,by simp,by simp,by simp,by simp⟩⟩
 | skip h1 h2 ih =>
  obtain ⟨D,e,h3,h4,h5,h6,h7,h8⟩:=ih
  refine ⟨⟨D,e,h3,h4,h5,fun r hr => ?_,h7,fun i b hb => ?_⟩⟩
  ·rcases bP.1 hr with rfl | hr
   ·exact (h4 _).2 (.inl h1)
   exact h6 r hr
  rcases h8 i b hb with h | h
  ·exact .inl (bX _ h)
  exact .inr h
 | @go t ts s d s1 d1 s' d' h1 h2 h3 ih1 ih2 =>
  obtain ⟨D1,e1,a3,a4,a5,a6,a7,a8⟩:=ih1
  obtain ⟨D2,e2,b3,b4,b5,b6,b7,b8⟩:=ih2
  have htl:t < s.length:=(aD.1 h1).1
  have hs1t:s1[t]? = some true:=(a4 t).2 (.inl (jU.2 (.inr ⟨rfl,htl⟩)))
  have hmono:∀ b,s1[b]? = some true -> s'[b]? = some true:=fun b hb=>(b4 b).2 (.inl hb)
  refine ⟨⟨D1 ++ [t] ++ D2,by rw [e2,e1];simp, ?_,fun b => ?_,fun b hb => ?_,fun r hr => ?_,fun b hb u hu => ?_,fun i b hb => ?_⟩⟩
  ·have n1:t ∉ D1:=fun hm=>by
    have:=a5 t hm
    rw [List.getElem?_set_self (by exact htl)] at this;cases this
   have n2:∀ x ∈ D2,x ∉ D1/\x ≠ t:=fun x hx=>by
    have h0:=b5 x hx
    refine ⟨fun hm => ?_,fun e => ?_⟩
    ·rw [(a4 x).2 (.inr hm)] at h0;cases h0
    rw [e,hs1t] at h0;cases h0
   rw [bZ,bZ]
   refine ⟨⟨a3,by simp,fun a ha b hb e => ?_⟩,b3,fun a ha b hb e => ?_⟩
   ·simp at hb;subst hb;subst e;exact n1 ha
   ·subst e
    rcases aN.1 ha with ha | ha
    ·exact (n2 a hb).1 ha
    simp at ha;exact (n2 a hb).2 ha
  ·rw [b4,a4,jU]
   simp only [aN,cY]
   constructor
   ·rintro ((( h | ⟨rfl,_⟩) | h) | h)
    ·exact .inl h
    ·exact .inr (.inl (.inr rfl))
    ·exact .inr (.inl (.inl h))
    exact .inr (.inr h)
   rintro (h | (h | rfl) | h)
   ·exact .inl (.inl (.inl h))
   ·exact .inl (.inr h)
   ·exact .inl (.inl (.inr ⟨rfl,htl⟩))
   exact .inr h
  ·have key:∀ x,s1[x]? = some false -> s[x]? = some false:=fun x hx=>by
    have hlen:=h2.len
    rw [cE] at hlen
    have hxl:x < s.length:=by have:=(aD.1 hx).1;omega
    cases hs:s[x] with
    | false=>rw [aC hxl,hs]
    | true =>
     have:s1[x]? = some true:=(a4 x).2 (.inl (jU.2 (.inl (by rw [aC hxl,hs]))))
     rw [hx] at this;cases this
   rcases aN.1 hb with hb | hb
   ·rcases aN.1 hb with hb | hb
    ·have h0:=a5 b hb
     by_cases e:t=b
     ·subst e;exact h1
     rwa [List.getElem?_set_ne e] at h0
    simp at hb;subst hb;exact h1
   ·exact key b (b5 b hb)
  ·rcases bP.1 hr with rfl | hr
   ·exact hmono _ hs1t
   exact b6 r hr
  ·rcases aN.1 hb with hb | hb
   ·rcases aN.1 hb with hb | hb
    ·exact hmono _ (a7 b hb u hu)
    simp at hb;subst hb;exact hmono _ (a6 u hu)
   exact b7 b hb u hu
  rw [bN,cV] at hb
  split at hb
  ·rename_i hi
   right
   rcases a8 i b hb with h | ⟨j,p,hij,hj,hp⟩
   ·exact ⟨D1.length,t,hi,by simp,h⟩
   refine ⟨j,p,hij, ?_,hp⟩
   rw [bN,dK ((aD.1 hj).1)];exact hj
  rename_i hi
  rw [cV] at hb
  split at hb
  ·rename_i hi2
   left
   have:i - D1.length=0:=by simp at hi2;omega
   rw [this] at hb
   simp at hb
   rw [hb];simp
  rename_i hi2
  simp at hi2
  rcases b8 _ b hb with h | ⟨j,p,hij,hj,hp⟩
  ·exact .inl (bX _ h)
  right
  refine ⟨D1.length+1+j,p,by have h0:=hij;simp only [aZ,cH] at h0;omega, ?_,hp⟩
  rw [bK (by simp)]
  simp
  exact hj
theorem Steps.count {tos:Nat -> List Nat} {l:List Nat} {s s' : List Bool} {d d' : List Nat} (h:Steps tos l s d s' d'):s'.count false <= s.count false:=by
 induction h with
 | nil=>exact aA _
 | skip _ _ ih=>exact ih
 | @go t ts s d s1 d1 s' d' h1 _ _ ih1 ih2 =>
  refine bI ih2 (bI ih1 ?_)
  have:=(aD.1 h1)
  rw [List.count_set this.1]
  simp
theorem count_set {s:List Bool} {t:Nat} (h:s[t]? = some false):(s.set t true).count false+1=s.count false:=by
 obtain ⟨h1,h2⟩:=aD.1 h
 have h3:0 < s.count false:=List.count_pos_iff.2 (h2 ▸ List.getElem_mem h1)
 rw [List.count_set h1,h2]
 simp
 omega
theorem Steps.total {tos:Nat -> List Nat} {l:List Nat} {s s' : List Bool} {d d' : List Nat} (h:Steps tos l s d s' d'):d'.length+s'.count false=d.length+s.count false:=by
 induction h with
 | nil=>rfl
 | skip _ _ ih=>exact ih
 | go h1 _ _ ih1 ih2 =>
  have:=count_set h1
  rw [aI] at ih2
  simp at ih2
  omega
inductive Way (tos:Nat -> List Nat) (gone:Int):Nat -> Prop
 | zero:gone ≠ 0 -> Way tos gone 0
 | step {b t:Nat}:Way tos gone b -> t ∈ tos b -> (t:Int) ≠ gone -> Way tos gone t
theorem Steps.way {tos:Nat -> List Nat} {n:Nat} {s' : List Bool} {d' : List Nat} (h:Steps tos [0] (List.replicate n false) [] s' d'):(∀ b,s'[b]? = some true ↔ Way tos (-1) b)/\(∀ b,b ∈ d' ↔ Way tos (-1) b)/\d'.Nodup /\
  (∀ (i b:Nat),d'[i]? = some b -> b=0 \/ ∃ (j p:Nat),i < j/\d'[j]? = some p/\b ∈ tos p)/\d'.getLast? = some 0:=by
 have hlast:d'.getLast? = some 0:=by
  cases h with
  | skip h1 _ =>
   exfalso
   have:=aD.1 h1
   obtain ⟨hl,he⟩:=this
   simp at he
  | go h1 h2 h3=>cases h3;simp
 obtain ⟨D,e,h3,h4,h5,h6,h7,h8⟩:=h.told
 rw [eF] at e
 subst e
 have hz:∀ b, ¬ (List.replicate n false)[b]? = some true:=fun b hb=>by
  obtain ⟨hl,he⟩:=aD.1 hb
  simp at he
 have h9:∀ b,s'[b]? = some true ↔ b ∈ d':=fun b=>by
  rw [h4];exact ⟨fun h=>h.resolve_left (hz b),.inr⟩
 have hway:∀ b,Way tos (-1) b -> s'[b]? = some true:=fun b hb=>by
  induction hb with
  | zero _=>exact h6 0 (by simp)
  | step _ ht _ ih=>exact h7 _ ((h9 _).1 ih) _ ht
 have hback:∀ (m i b:Nat),d'.length - i <= m -> d'[i]? = some b -> Way tos (-1) b:=by
  intro m
  induction m with
  | zero=>intro i b hm hb;have:=(aD.1 hb).1;omega
  | succ m ih =>
   intro i b hm hb
   rcases h8 i b hb with h | ⟨j,p,hij,hj,hp⟩
   ·simp at h;subst h;exact .zero (by decide)
   exact .step (ih j p (by omega) hj) hp (by omega)
 have h10:∀ b,b ∈ d' ↔ Way tos (-1) b:=fun b=>⟨fun hb=>by
  obtain ⟨i,hi⟩:=bJ.1 hb
  exact hback _ i b (aA _) hi,fun hb=>(h9 b).1 (hway b hb)⟩
 refine ⟨fun b=>(h9 b).trans (h10 b),h10,h3,fun i b hb => ?_,hlast⟩
 rcases h8 i b hb with h | h
 ·left;simpa using h
 ·exact .inr h
end
section
open Go.RowKit
def toB (f:FuncD) (b:Nat):List Nat:=(f.blocks.getD b default).term.to.map Int.toNat
theorem sF {f:FuncD} {b:Nat} {x:BlockD} (h:f.blocks[b]? = some x):toB f b=x.term.to.map Int.toNat:=by
 unfold toB;rw [aO,h];rfl
theorem nX {f:FuncD} (h:gS f=true) {b:Nat} {x:BlockD} (hx:f.blocks[b]? = some x):∀ t ∈ x.term.to,1 <= t/\t < (f.blocks.length:Int):=by
 unfold gS at h
 simp only [aK,bB] at h
 have h1:=h.2 (x,b) (by rw [bT];exact hx)
 unfold fX iM at h1
 simp only [aK,bB] at h1
 intro t ht
 have:=h1.2.1 t ht
 simpa using this
theorem iJ {f:FuncD} (h:gS f=true):1 <= f.blocks.length/\f.blocks.length <= 512:=by
 unfold gS jA at h
 simp only [aK,decide_eq_true_eq] at h
 exact ⟨h.1.1.1.1.2,h.1.1.1.2⟩
structure Kept (bs:List Nat) (v v' : Value) (W W' : World):Prop where
 os:W'.os=W.os
 tape:W'.tape=W.tape
 output:W'.output=W.output
 size:W.heap.size <= W'.heap.size
 block:∀ k,k < W.heap.size -> k ∉ bs -> v.ownBlock ≠ some k -> W'.heap[k]? = W.heap[k]?
 own:∀ k,v'.ownBlock=some k -> v.ownBlock=some k \/ W.heap.size <= k
theorem Kept.refl (bs:List Nat) (v:Value) (W:World):Kept bs v v W W:=⟨rfl,rfl,rfl,aA _,fun _ _ _ _=>rfl,fun k h=>.inl h⟩
theorem Kept.trans {bs:List Nat} {u v x:Value} {a b c:World} (h:Kept bs u v a b) (k:Kept bs v x b c):Kept bs u x a c :=
 ⟨k.os.trans h.os,k.tape.trans h.tape,k.output.trans h.output,bI h.size k.size,
  fun i hi hn ho=>(k.block i (bA hi h.size) hn fun e=>by rcases h.own i e with h1 | h1 <;> first | exact ho h1 | omega).trans (h.block i hi hn ho),
  fun i hi=>by rcases k.own i hi with h1 | h1 <;> first | exact h.own i h1 | exact .inr (bI h.size h1)⟩
theorem Kept.of_below {bs:List Nat} {v:Value} {a b:World} (h:Below a.heap.size a b):Kept bs v v a b:=⟨h.os,h.tape,h.output,h.size,fun k hk _ _=>h.block k hk,fun k h=>.inl h⟩
theorem Kept.set {bs:List Nat} {v:Value} (a:World) {p:Addr} (x:Value) (hp:p.block ∈ bs):Kept bs v v a (a.setCell p x):=by
 refine ⟨rfl,rfl,rfl,by simp,fun k hk hn _ => ?_,fun k h=>.inl h⟩
 exact Below.heap_setCell a p x k fun e=>hn (e ▸ hp)
theorem Kept.below {bs:List Nat} {v v' : Value} {a b w:World} (h:Kept bs v v' a b) (hw:Below w.heap.size w a) (hb:∀ x ∈ bs,w.heap.size <= x) (hv:∀ k,v.ownBlock=some k -> w.heap.size <= k):Below w.heap.size w b :=
 ⟨h.os.trans hw.os,h.tape.trans hw.tape,h.output.trans hw.output,bI hw.size h.size,fun k hk =>
  (h.block k (bA hk hw.size) (fun hm=>by have:=hb k hm;omega) (fun e=>by have:=hv k e;omega)).trans (hw.block k hk)⟩
theorem Box.kept {W W' : World} {b:Nat} {A:Array Value} {bs:List Nat} {v v' : Value} (h:Box W b A) (ht:Kept bs v v' W W') (hb:b ∉ bs) (hv:v.ownBlock ≠ some b):Box W' b A:=by
 have hh:=ht.block b h.lt hb hv
 exact ⟨bA h.lt ht.size,fun o=>(World.cell?_of_block (w:=W) (a:=⟨b,o,none⟩) hh).trans (h.cell o),fun o=>(World.frozen?_of_block (w:=W) (a:=⟨b,o,none⟩) hh).trans (h.free o)⟩
structure VisN where
 bb:Nat
 B:Nat
 fb:Nat
 vb:Nat
 gb:Nat
 bg:Nat
def VisN.list (N:VisN):List Nat:=[N.bb,N.B,N.fb,N.vb,N.gb,N.bg]
def VisN.caps (N:VisN):Array Value:=#[.pointer (some ⟨N.bb,0,none⟩),.pointer (some ⟨N.fb,0,none⟩),.pointer (some ⟨N.vb,0,none⟩),.pointer (some ⟨N.gb,0,none⟩)]
def gE (s:List Bool):Array Value:=(s.map Value.bool).toArray
theorem jM {s:List Bool} {b:Nat} {x:Bool} (h:s[b]? = some x):(gE s)[b]? = some (.bool x):=by unfold gE;simp [h]
theorem lQ (s:List Bool) (b:Nat) (x:Bool):(gE s).setIfInBounds b (.bool x)=gE (s.set b x):=by
 unfold gE
 rw [aB,List.map_set]
structure VisI (N:VisN) (base nb:Nat) (fa:Array Value) (pv lv:Value) (W:World) (s:List Bool) (d:List Nat) (ov:Value):Prop where
 begun:Box W N.bb #[.slice (some ⟨N.B,0,none⟩) nb nb]
 flags:Box W N.B (gE s)
 fbox:Box W N.fb fa
 vis:Box W N.vb #[.func (.func 128) #[] N.caps]
 gvar:Box W N.gb #[.pointer (some ⟨N.bg,0,none⟩)]
 graph:Box W N.bg (fa ++ #[pv,ov,lv])
 own:Own W base N.list 3 1 ov d.length (d.map fun x:Nat=>Value.int .i64 x)
 len:s.length=nb
 nodup:N.list.Nodup
theorem VisI.later {N:VisN} {base nb:Nat} {fa:Array Value} {pv lv:Value} {W W' : World} {s:List Bool} {d:List Nat} {ov:Value} (h:VisI N base nb fa pv lv W s d ov) (hb:Below W.heap.size W W'):VisI N base nb fa pv lv W' s d ov :=
 ⟨h.begun.later hb,h.flags.later hb,h.fbox.later hb,h.vis.later hb,h.gvar.later hb,h.graph.later hb,h.own.later hb,h.len,h.nodup⟩
theorem VisI.flag {N:VisN} {base nb:Nat} {fa:Array Value} {pv lv:Value} {W:World} {s:List Bool} {d:List Nat} {ov:Value} (h:VisI N base nb fa pv lv W s d ov) (b:Nat) (x:Bool):VisI N base nb fa pv lv (W.setCell ⟨N.B,b,none⟩ (.bool x)) (s.set b x) d ov:=by
 have hn:=h.nodup
 unfold VisN.list at hn
 simp only [eD,bP,dX,or_false,not_or] at hn
 obtain ⟨⟨n1,n2,n3,n4,n5⟩,⟨n6,n7,n8,n9⟩,_⟩:=hn
 refine ⟨h.begun.other _ n1, ?_,h.fbox.other _ (Ne.symm n6),h.vis.other _ (Ne.symm n7),h.gvar.other _ (Ne.symm n8),h.graph.other _ (Ne.symm n9),h.own.other _ (by simp [VisN.list]),by rw [cE];exact h.len,h.nodup⟩
 have:=h.flags.set b (.bool x)
 rwa [lQ] at this
end
end Go.Proofs.YtagabiidbbhhmaaGreat
