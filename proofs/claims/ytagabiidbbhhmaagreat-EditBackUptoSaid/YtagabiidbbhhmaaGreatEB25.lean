/- Part 25. -/
import Derived.Test.YtagabiidbbhhmaaGreatEB20
namespace Go.Proofs.YtagabiidbbhhmaaGreat
set_option linter.all false
open Go.RowKit
structure Placed (tos:Nat -> List Nat) (pl:Nat -> Nat):Prop where
 zero:pl 0=0
 inj:∀ {a b:Nat},Way tos (-1) a -> Way tos (-1) b -> pl a=pl b -> a=b
 ahead:∀ {b:Nat},Way tos (-1) b -> b ≠ 0 -> ∃ p,Way tos (-1) p/\b ∈ tos p/\pl p < pl b
inductive Anc (I:Nat -> Option Nat) (a:Nat):Nat -> Prop
 | refl:Anc I a a
 | up {p v:Nat}:I v=some p -> Anc I a p -> Anc I a v
def Proc (I:Nat -> Option Nat) (v:Nat):Prop:=v=0 \/ (I v).isSome=true
structure Tree (tos:Nat -> List Nat) (pl:Nat -> Nat) (I:Nat -> Option Nat):Prop where
 root:I 0=none
 par:∀ {v p:Nat},I v=some p -> Way tos (-1) v/\Way tos (-1) p/\pl p < pl v/\Proc I p
inductive Av (tos:Nat -> List Nat) (pl:Nat -> Nat) (a:Nat):Nat -> Nat -> Prop
 | zero (k:Nat):a ≠ 0 -> Av tos pl a k 0
 | fwd {k p v:Nat}:Av tos pl a k p -> v ∈ tos p -> pl p < pl v -> v ≠ a -> Av tos pl a k v
 | back {k p v:Nat}:Av tos pl a k p -> v ∈ tos p -> v ≠ a -> Av tos pl a (k+1) v
section
variable {tos:Nat -> List Nat} {pl:Nat -> Nat} {I:Nat -> Option Nat}
theorem Way.base {g:Int} {v:Nat} (h:Way tos g v):Way tos (-1) v:=by
 induction h with
 | zero _=>exact .zero (by decide)
 | step _ ht _ ih=>exact .step ih ht (by omega)
theorem Way.ne {a v:Nat} (h:Way tos (a:Int) v):v ≠ a:=by
 cases h with
 | zero h=>omega
 | step _ _ h=>omega
theorem Anc.trans {a b c:Nat} (h:Anc I a b) (k:Anc I b c):Anc I a c:=by
 induction k with
 | refl=>exact h
 | up e _ ih=>exact .up e ih
theorem Anc.parts {a v:Nat} (h:Anc I a v):a=v \/ ∃ p,I v=some p/\Anc I a p:=by
 cases h with
 | refl=>exact .inl rfl
 | up e h=>exact .inr ⟨_,e,h⟩
theorem Anc.le (hT:Tree tos pl I) {a v:Nat} (h:Anc I a v):a=v \/ pl a < pl v:=by
 induction h with
 | refl=>exact .inl rfl
 | up e _ ih =>
  have:=(hT.par e).2.2.1
  rcases ih with rfl | h
  ·exact .inr this
  exact .inr (by omega)
theorem Anc.le' (hT:Tree tos pl I) {a v:Nat} (h:Anc I a v):pl a <= pl v:=by
 rcases h.le hT with rfl | h <;> omega
theorem Anc.line (hT:Tree tos pl I) {a b v:Nat} (h:Anc I b v) (k:Anc I a v) (hl:pl a <= pl b):Anc I a b:=by
 induction h with
 | refl=>exact k
 | up e h ih =>
  rcases k.parts with rfl | ⟨q,e',k'⟩
  ·have:=h.le' hT
   have:=(hT.par e).2.2.1
   omega
  rw [e] at e';cases e'
  exact ih k'
theorem Tree.proc_way (hT:Tree tos pl I) {v:Nat} (h:Proc I v):Way tos (-1) v:=by
 rcases h with rfl | h
 ·exact .zero (by decide)
 obtain ⟨p,hp⟩:=eN.1 h
 exact (hT.par hp).1
theorem Tree.procs (hT:Tree tos pl I) {a v:Nat} (h:Anc I a v) (hv:Proc I v):Proc I a:=by
 induction h with
 | refl=>exact hv
 | up e _ ih=>exact ih (hT.par e).2.2.2
theorem Tree.anc_zero (hT:Tree tos pl I) {a:Nat} (h:Anc I a 0):a=0:=by
 rcases h.parts with h | ⟨p,e,_⟩
 ·exact h
 rw [hT.root] at e;cases e
theorem Tree.meets (hT:Tree tos pl I) (hz:pl 0=0) {x y:Nat} (hx:Proc I x) (hl:pl y < pl x):∃ p,I x=some p/\Proc I p/\pl p < pl x /\ ∀ c,(Anc I c p/\Anc I c y) ↔ (Anc I c x/\Anc I c y):=by
 rcases hx with rfl | h
 ·omega
 obtain ⟨p,hp⟩:=eN.1 h
 obtain ⟨h1,h2,h3,h4⟩:=hT.par hp
 refine ⟨p,hp,h4,h3,fun c=>⟨fun ⟨u,w⟩=>⟨.up hp u,w⟩,fun ⟨u,w⟩=>⟨?_,w⟩⟩⟩
 rcases u.parts with rfl | ⟨q,e,u'⟩
 ·have:=w.le' hT;omega
 rw [hp] at e;cases e;exact u'
theorem Av.ne {a k v:Nat} (h:Av tos pl a k v):v ≠ a:=by
 cases h with
 | zero _ h=>exact Ne.symm h
 | fwd _ _ _ h=>exact h
 | back _ _ h=>exact h
theorem Av.mono {a k v:Nat} (h:Av tos pl a k v):Av tos pl a (k+1) v:=by
 induction h with
 | zero k h=>exact .zero _ h
 | fwd _ h1 h2 h3 ih=>exact .fwd ih h1 h2 h3
 | back _ h1 h2 ih=>exact .back ih h1 h2
theorem Av.more {a k m v : Nat} (h : Av tos pl a k v) (hk : k ≤ m) : Av tos pl a m v := by
  induction m with
  | zero => obtain rfl : k = 0 := by omega
            exact h
  | succ m ih =>
    by_cases e : k = m + 1
    · subst e; exact h
    · exact (ih (by omega)).mono
theorem Av.way {a k v:Nat} (h:Av tos pl a k v):Way tos (a:Int) v:=by
 induction h with
 | zero k h=>exact .zero (by omega)
 | fwd _ h1 _ h3 ih=>exact .step ih h1 (by omega)
 | back _ h1 h3 ih=>exact .step ih h1 (by omega)
theorem Way.av {a v:Nat} (h:Way tos (a:Int) v):∃ k,Av tos pl a k v:=by
 induction h with
 | zero h=>exact ⟨0,.zero 0 (by omega)⟩
 | step _ h1 h2 ih=>obtain ⟨k,ih⟩:=ih;exact ⟨k+1,.back ih h1 (by omega)⟩
theorem Av.through {c b j v:Nat} (h:Av tos pl c j v):Av tos pl b j v \/ Av tos pl c j b:=by
 induction h with
 | zero k h =>
  by_cases e:b=0
  ·subst e;exact .inr (.zero _ h)
  exact .inl (.zero _ e)
 | @fwd k p v h h1 h2 h3 ih =>
  by_cases e:v=b
  ·subst e;exact .inr (.fwd h h1 h2 h3)
  rcases ih with ih | ih
  ·exact .inl (.fwd ih h1 h2 e)
  exact .inr ih
 | @back k p v h h1 h3 ih =>
  by_cases e:v=b
  ·subst e;exact .inr (.back h h1 h3)
  rcases ih with ih | ih
  ·exact .inl (.back ih h1 e)
  exact .inr ih.mono
theorem uN (n:Nat) (f:Nat -> Nat):∃ K, ∀ i,i < n -> f i <= K:=by
 induction n with
 | zero=>exact ⟨0,fun i h=>by omega⟩
 | succ n ih =>
  obtain ⟨K,hK⟩:=ih
  refine ⟨K+f n,fun i h => ?_⟩
  by_cases e:i=n
  ·subst e;omega
  have:=hK i (by omega);omega
theorem aCV (tos:Nat -> List Nat) (pl:Nat -> Nat) (n:Nat):∃ K, ∀ a v:Nat,a < n -> v < n -> Way tos (a:Int) v -> Av tos pl a K v:=by
 have h1:∀ a v:Nat, ∃ k,Way tos (a:Int) v -> Av tos pl a k v:=fun a v=>by
  by_cases h:Way tos (a:Int) v
  ·obtain ⟨k,hk⟩:=h.av (pl:=pl);exact ⟨k,fun _=>hk⟩
  exact ⟨0,fun h2=>absurd h2 h⟩
 let f:Nat -> Nat -> Nat:=fun a v=>(h1 a v).choose
 have hf:∀ a v:Nat,Way tos (a:Int) v -> Av tos pl a (f a v) v:=fun a v=>(h1 a v).choose_spec
 have h2:∀ a:Nat, ∃ K, ∀ v,v < n -> f a v <= K:=fun a=>uN n (f a)
 obtain ⟨K,hK⟩:=uN n fun a=>(h2 a).choose
 exact ⟨K,fun a v ha hv hw=>(hf a v hw).more (bI ((h2 a).choose_spec v hv) (hK a ha))⟩
structure Run (tos:Nat -> List Nat) (pl:Nat -> Nat) (I:Nat -> Option Nat) (k i:Nat):Prop where
 tree:Tree tos pl I
 proc:∀ {v:Nat},Way tos (-1) v -> (pl v < i \/ 0 < k) -> Proc I v
 first:k=0 -> ∀ {v:Nat},Proc I v -> pl v < i
 dom:∀ {v c:Nat},Proc I v -> ¬ Way tos (c:Int) v -> Anc I c v
 rr:∀ {v c j:Nat},Proc I v -> Anc I c v -> (j < k \/ (j=k/\pl v < i)) -> ¬ Av tos pl c j v
theorem Run.start (hP:Placed tos pl):Run tos pl (fun _=>none) 0 1:=by
 refine ⟨⟨rfl,fun h=>by cases h⟩,fun {v} hv h => ?_,fun _ {v} h => ?_,fun {v c} h hd => ?_,fun {v c j} h ha _ => ?_⟩
 ·left
  exact hP.inj hv (.zero (by decide)) (by rw [hP.zero];omega)
 ·rcases h with rfl | h
  ·rw [hP.zero];omega
  cases h
 ·rcases h with rfl | h
  ·by_cases e:c=0
   ·subst e;exact .refl
   exact absurd (.zero (by omega)) hd
  cases h
 rcases ha.parts with rfl | ⟨p,e,_⟩
 ·exact fun h=>h.ne rfl
 cases e
theorem Run.next (hP:Placed tos pl) {k i:Nat} (h:Run tos pl I k i) (hi:∀ v,Way tos (-1) v -> pl v < i):Run tos pl I (k+1) 1:=by
 refine ⟨h.tree,fun {v} hv _=>h.proc hv (.inl (hi v hv)),fun e=>by omega,fun hv hd=>h.dom hv hd,fun {v c j} hv ha hj => ?_⟩
 rcases hj with hj | ⟨rfl,hj⟩
 ·have hw:=hi v (h.tree.proc_way hv)
  exact h.rr hv ha (by omega)
 obtain rfl:v=0:=hP.inj (h.tree.proc_way hv) (.zero (by decide)) (by rw [hP.zero];omega)
 have:=h.tree.anc_zero ha
 subst this
 exact fun h=>h.ne rfl
def upd' (I:Nat -> Option Nat) (b m:Nat):Nat -> Option Nat:=fun v=>if v=b then some m else I v
theorem nO (I:Nat -> Option Nat) (b m:Nat):upd' I b m b=some m:=if_pos rfl
theorem mZ (I:Nat -> Option Nat) {b v:Nat} (m:Nat) (h:v ≠ b):upd' I b m v=I v:=if_neg h
theorem aA7 {I:Nat -> Option Nat} {b m:Nat} (h:I b=some m):upd' I b m=I:=by
 funext v;unfold upd';split
 ·rename_i e;rw [e,h]
 rfl
def lI (tos:Nat -> List Nat) (I:Nat -> Option Nat) (b m:Nat):Prop:=Proc I m /\ ∀ c,Anc I c m ↔ ∀ p,b ∈ tos p -> Way tos (-1) p -> Proc I p -> Anc I c p
theorem uO {b m c v:Nat} (h:Anc I c v) (hb:¬ Anc I b v):Anc (upd' I b m) c v:=by
 induction h with
 | refl=>exact .refl
 | @up p v e h ih =>
  have hv:v ≠ b:=fun e3=>hb (e3 ▸ .refl)
  exact .up (by rw [mZ I m hv];exact e) (ih fun h2=>hb (.up e h2))
theorem sE {b m c v:Nat} (h:Anc (upd' I b m) c v) (hb:¬ Anc I b v):Anc I c v:=by
 induction h with
 | refl=>exact .refl
 | @up p v e h ih =>
  have hv:v ≠ b:=fun e3=>hb (e3 ▸ .refl)
  rw [mZ I m hv] at e
  exact .up e (ih fun h2=>hb (.up e h2))
theorem tL {b m c v:Nat} (h:Anc I c v) (hb:Anc I b c):Anc (upd' I b m) c v \/ Anc I c b:=by
 induction h with
 | refl=>exact .inl .refl
 | @up p v e h ih =>
  by_cases hv:v=b
  ·subst hv;exact .inr (.up e h)
  rcases ih with ih | ih
  ·exact .inl (.up (by rw [mZ I m hv];exact e) ih)
  exact .inr ih
theorem Run.step (hP:Placed tos pl) {k b m:Nat} (h:Run tos pl I k (pl b)) (hb:Way tos (-1) b) (hb0:b ≠ 0) (hm:lI tos I b m):Run tos pl (upd' I b m) k (pl b+1):=by
 have hT:=h.tree
 obtain ⟨hmP,hm⟩:=hm
 obtain ⟨p0,hp1,hp2,hp3⟩:=hP.ahead hb hb0
 have hp4:Proc I p0:=h.proc hp1 (.inl hp3)
 have hml:pl m < pl b:=by
  have:=((hm m).1 .refl p0 hp2 hp1 hp4).le' hT
  omega
 have hmb:¬ Anc I b m:=fun hh=>by have:=hh.le' hT;omega
 -- the new ancestors of b
 have hbn:∀ c,Anc (upd' I b m) c b ↔ c=b \/ Anc I c m:=fun c=>by
  constructor
  ·intro hh
   rcases hh.parts with e | ⟨q,e,hq⟩
   ·exact .inl e
   rw [nO] at e;cases e
   exact .inr (sE hq hmb)
  rintro (rfl | hh)
  ·exact .refl
  exact .up (nO I b m) (uO hh hmb)
 have hbd:∀ v,Anc I b v -> Anc (upd' I b m) b v:=fun v hv=>by
  rcases tL (m:=m) hv .refl with h1 | h1
  ·exact h1
  exact tL hv .refl |>.elim id fun _=>by
   clear h1
   induction hv with
   | refl=>exact .refl
   | @up p v e h ih =>
    by_cases e2:v=b
    ·subst e2;exact .refl
    exact .up (by rw [mZ I m e2];exact e) ih
 -- the new ancestors of what has b above it
 have hvn:∀ c v,Anc I b v -> Anc (upd' I b m) c v -> (Anc I c v/\Anc I b c) \/ Anc (upd' I b m) c b:=fun c v hv hh=>by
  induction hh with
  | refl=>exact .inl ⟨.refl,hv⟩
  | @up p v e hq ih =>
   by_cases e2:v=b
   ·subst e2;exact .inr (.up e hq)
   rw [mZ I m e2] at e
   rcases hv.parts with e3 | ⟨q,e3,hq3⟩
   ·exact absurd e3.symm e2
   rw [e] at e3;cases e3
   rcases ih hq3 with ⟨h1,h2⟩ | h1
   ·exact .inl ⟨.up e h1,h2⟩
   exact .inr h1
 have hproc:∀ {v:Nat},Proc I v -> Proc (upd' I b m) v:=fun {v} hv=>by
  rcases hv with rfl | hv
  ·exact .inl rfl
  right;unfold upd';split
  ·rfl
  exact hv
 have hproc' : ∀ {v:Nat},Proc (upd' I b m) v -> v=b \/ Proc I v:=fun {v} hv=>by
  by_cases e:v=b
  ·exact .inl e
  right
  rcases hv with rfl | hv
  ·exact .inl rfl
  right;rwa [mZ I m e] at hv
 have hmw:=hT.proc_way hmP
 have hT' : Tree tos pl (upd' I b m):=by
  refine ⟨by rw [mZ I m (Ne.symm hb0)];exact hT.root,fun {v p} e => ?_⟩
  by_cases e2:v=b
  ·subst e2;rw [nO] at e;cases e
   exact ⟨hb,hmw,hml,hproc hmP⟩
  rw [mZ I m e2] at e
  obtain ⟨h1,h2,h3,h4⟩:=hT.par e
  exact ⟨h1,h2,h3,hproc h4⟩
 -- the paths to b
 have hrb:∀ {c j:Nat},Anc (upd' I b m) c b -> j <= k -> ¬ Av tos pl c j b:=fun {c j} hc hj hav=>by
  rcases (hbn c).1 hc with rfl | hc
  ·exact hav.ne rfl
  have hc':=(hm c).1 hc
  cases hav with
  | zero _ _=>exact hb0 rfl
  | @fwd _ p _ h1 h2 h3 h4 =>
   have hw:=h1.way.base
   have hpp:=h.proc hw (.inl h3)
   exact h.rr hpp (hc' p h2 hw hpp) (by omega) h1
  | @back j p _ h1 h2 h4 =>
   have hw:=h1.way.base
   have hpp:=h.proc hw (.inr (by omega))
   exact h.rr hpp (hc' p h2 hw hpp) (by omega) h1
 have hdb:∀ {c:Nat}, ¬ Way tos (c:Int) b -> Anc (upd' I b m) c b:=fun {c} hd=>by
  rw [hbn]
  by_cases e:c=b
  ·exact .inl e
  right
  rw [hm]
  intro p hp hw hpp
  exact h.dom hpp fun hh=>hd (.step hh hp (by omega))
 refine ⟨hT',fun {v} hv hi => ?_,fun e {v} hv => ?_,fun {v c} hv hd => ?_,fun {v c j} hv ha hj => ?_⟩
 ·by_cases e:v=b
  ·subst e;right;rw [nO];rfl
  refine hproc (h.proc hv ?_)
  rcases hi with hi | hi
  ·left
   have:pl v ≠ pl b:=fun e2=>e (hP.inj hv hb e2)
   omega
  exact .inr hi
 ·rcases hproc' hv with rfl | hv
  ·omega
  have:=h.first e hv;omega
 ·rcases hproc' hv with rfl | hv'
  ·exact hdb hd
  by_cases hbv:Anc I b v
  ·have hcv:=h.dom hv' hd
   by_cases hl:pl b <= pl c
   ·rcases tL (m:=m) hcv (hcv.line hT hbv hl) with h1 | h1
    ·exact h1
    -- c above b,and not ahead of it: it is b
    rcases h1.le hT with e | h2
    ·subst e;exact hbd v hbv
    omega
   by_cases e:v=b
   ·subst e;exact hdb hd
   -- every way to b has c
   have hvl:pl b < pl v:=by rcases hbv.le hT with e2 | h2;exact absurd e2.symm e;exact h2
   have hk:0 < k:=Nat.pos_of_ne_zero fun e2=>by have:=h.first e2 hv';omega
   have hno:=h.rr hv' hbv (j:=0) (.inl hk)
   have hdc:¬ Way tos (c:Int) b:=fun hcb=>by
    have low:∀ (n u:Nat),pl u <= n -> Way tos (-1) u -> pl u < pl b -> Av tos pl b 0 u:=by
     intro n
     induction n with
     | zero =>
      intro u hn hu hl2
      have:u=0:=hP.inj hu (.zero (by decide)) (by rw [hP.zero];omega)
      subst this;exact .zero _ hb0
     | succ n ih =>
      intro u hn hu hl2
      by_cases e0:u=0
      ·subst e0;exact .zero _ hb0
      obtain ⟨q,q1,q2,q3⟩:=hP.ahead hu e0
      exact .fwd (ih q (by omega) q1 (by omega)) q2 q3 (fun e1=>by subst e1;omega)
    have high:∀ (n u:Nat),pl u <= n -> Way tos (-1) u -> pl b <= pl u -> Av tos pl b 0 u \/ Way tos (c:Int) u:=by
     intro n
     induction n with
     | zero =>
      intro u hn hu hl2
      have:u=b:=hP.inj hu hb (by omega)
      subst this;exact .inr hcb
     | succ n ih =>
      intro u hn hu hl2
      by_cases e1:u=b
      ·subst e1;exact .inr hcb
      by_cases e0:u=0
      ·subst e0;exact .inl (.zero _ hb0)
      obtain ⟨q,q1,q2,q3⟩:=hP.ahead hu e0
      by_cases hq:pl b <= pl q
      ·rcases ih q (by omega) q1 hq with h1 | h1
       ·exact .inl (.fwd h1 q2 q3 e1)
       exact .inr (.step h1 q2 (fun e2=>by
        have:u=c:=by omega
        subst this;omega))
      exact .inl (.fwd (low _ q (aA _) q1 (by omega)) q2 q3 e1)
    rcases high _ v (aA _) (hT.proc_way hv') (by omega) with h1 | h1
    ·exact hno h1
    exact hd h1
   exact (hdb hdc).trans (hbd v hbv)
  exact uO (h.dom hv' hd) hbv
 by_cases e:v=b
 ·subst e
  exact hrb ha (by omega)
 have hv':=(hproc' hv).resolve_left e
 have hne:pl v ≠ pl b:=fun e2=>e (hP.inj (hT.proc_way hv') hb e2)
 by_cases hbv:Anc I b v
 ·have hvl:pl b < pl v:=by rcases hbv.le hT with e2 | h2;exact absurd e2.symm e;exact h2
  have hjk:j < k:=by omega
  rcases hvn c v hbv ha with ⟨h1,_⟩ | h1
  ·exact h.rr hv' h1 (.inl hjk)
  intro hav
  rcases hav.through (b:=b) with h2 | h2
  ·exact h.rr hv' hbv (.inl hjk) h2
  exact hrb h1 (by omega) h2
 exact h.rr hv' (sE ha hbv) (by omega)
theorem Run.fixed {k i:Nat} (h:Run tos pl I k i) (hall:∀ {v:Nat},Way tos (-1) v -> Proc I v) (hfix:∀ {b:Nat},Way tos (-1) b -> b ≠ 0 -> ∃ m,I b=some m/\lI tos I b m) {c v:Nat} (hv:Way tos (-1) v) :
  Anc I c v ↔ ¬ Way tos (c:Int) v:=by
 refine ⟨fun ha hw => ?_,h.dom (hall hv)⟩
 clear hv
 induction hw with
 | zero hc =>
  have:=h.tree.anc_zero ha;subst this;exact hc rfl
 | @step b t hb ht hne ih =>
  have hbw:=hb.base
  have htw:Way tos (-1) t:=.step hbw ht (by omega)
  rcases ha.parts with e | ⟨q,e,hq⟩
  ·exact hne (by omega)
  have ht0:t ≠ 0:=fun e0=>by subst e0;rw [h.tree.root] at e;cases e
  obtain ⟨m,e2,_,hm⟩:=hfix htw ht0
  rw [e] at e2;cases e2
  exact ih ((hm c).1 hq b ht hbw (hall hbw))
theorem Run.settled {k i K n:Nat} (h:Run tos pl I k i) (hn:∀ {v:Nat},Way tos (-1) v -> v < n) (hK:∀ a v:Nat,a < n -> v < n -> Way tos (a:Int) v -> Av tos pl a K v) (hk:K < k) {c v:Nat} (hv:Way tos (-1) v) :
  Anc I c v ↔ ¬ Way tos (c:Int) v:=by
 have hp:=h.proc hv (.inr (by omega))
 refine ⟨fun ha hw => ?_,h.dom hp⟩
 have hc:=hn (h.tree.proc_way (h.tree.procs ha hp))
 exact h.rr hp ha (.inl hk) (hK c v hc (hn hv) hw)
theorem Run.same (hP:Placed tos pl) {k K n b m:Nat} (h:Run tos pl I k (pl b)) (hn:∀ {v:Nat},Way tos (-1) v -> v < n) (hK:∀ a v:Nat,a < n -> v < n -> Way tos (a:Int) v -> Av tos pl a K v) (hk:K < k) (hb:Way tos (-1) b) (hb0:b ≠ 0) (hm:lI tos I b m) :
  I b=some m:=by
 have h':=h.step hP hb hb0 hm
 have e1:=fun c=>h.settled (c:=c) hn hK hk hb
 have e2:=fun c=>h'.settled (c:=c) hn hK hk hb
 have e3:∀ c,Anc (upd' I b m) c b ↔ Anc I c b:=fun c=>(e2 c).trans (e1 c).symm
 rcases h.proc hb (.inr (by omega)) with e | hs
 ·exact absurd e hb0
 ·obtain ⟨p,hp⟩:=eN.1 hs
  have hmb:m ≠ b:=fun e=>by have:=(h'.tree.par (nO I b m)).2.2.1;subst e;omega
  have hpb:p ≠ b:=fun e=>by have:=(h.tree.par hp).2.2.1;subst e;omega
  have h1:Anc I m p:=by
   rcases ((e3 m).1 (.up (nO I b m) .refl)).parts with e | ⟨q,e,hq⟩
   ·exact absurd e hmb
   rw [hp] at e;cases e;exact hq
  have h2:Anc (upd' I b m) p m:=by
   rcases ((e3 p).2 (.up hp .refl)).parts with e | ⟨q,e,hq⟩
   ·exact absurd e hpb
   rw [nO] at e;cases e;exact hq
  have l1:=h1.le' h.tree
  have l2:=h2.le' h'.tree
  have:m=p:=hP.inj (h.tree.proc_way hm.1) (h.tree.par hp).2.1 (by omega)
  rw [hp,this]
end
end Go.Proofs.YtagabiidbbhhmaaGreat
