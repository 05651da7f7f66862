/- Part 3. -/
import Derived.Deep.Cut
import Derived.Test.YtcmflfkpeodicaaGreatIRA1
import Derived.Test.YtcmflfkpeodicaaGreatIRA2
namespace Go.Proofs.YtcmflfkpeodicaaGreat
set_option linter.all false
open Go.RowKit
theorem Box.drewN {W:World} {b:Nat} {A:Array Value} (h:Box W b A) (n:Nat):Box (W.drewN n) b A:=h.later ⟨rfl,rfl,rfl,aF _,fun _ _=>rfl⟩
structure New (T:TypeId) (w w' : World) (u:Value) (xs:List Int):Prop where
 own:w'.ownsRow w.heap.size T 1 u xs.length (xs.map (.int .i64))
 le:xs.length <= 17592186044416
 all:∀ x ∈ xs,In64 x
theorem New.ints {T:TypeId} {w w' : World} {u:Value} {xs:List Int} (h:New T w w' u xs):Ints w' u xs:=Ints.of_own h.own h.le h.all
theorem New.fresh {T:TypeId} {w w' : World} {u:Value} {xs:List Int} (h:New T w w' u xs) (g:Nat) (hg:u.ownBlock=some g):w.heap.size <= g/\g < w'.heap.size:=by
 rcases h.own.2 with ⟨rfl,_⟩ | ⟨g',cap,cur,rfl,hb,hh,_⟩
 ·cases hg
 cases hg;exact ⟨hb,(aS.1 hh).1⟩
theorem New.nil {T:TypeId} {w w' : World}:New T w w' (.slice none 0 0) []:=⟨⟨rfl,.inl ⟨rfl,rfl⟩⟩,by simp,by simp⟩
theorem New.keep {T:TypeId} {w w1 w2:World} {u:Value} {xs:List Int} (h:New T w w1 u xs) (hk:∀ g,u.ownBlock=some g -> w2.heap[g]? = w1.heap[g]?):New T w w2 u xs:=by
 refine ⟨⟨h.own.1, ?_⟩,h.le,h.all⟩
 rcases h.own.2 with h2 | ⟨g,cap,cur,hv,hb,hh,r⟩
 ·exact .inl h2
 exact .inr ⟨g,cap,cur,hv,hb,by rw [hk g (by rw [hv];rfl)];exact hh,r⟩
theorem New.later {T:TypeId} {w w1 w2:World} {u:Value} {xs:List Int} (h:New T w w1 u xs) (hb:Below w1.heap.size w1 w2):New T w w2 u xs:=h.keep fun g hg=>hb.block g (h.fresh g hg).2
theorem New.other {T:TypeId} {w w1:World} {u:Value} {xs:List Int} (h:New T w w1 u xs) {p:Addr} (v:Value) (hp:p.block < w.heap.size \/ w1.heap.size <= p.block):New T w (w1.setCell p v) u xs :=
 h.keep fun g hg=>Below.heap_setCell w1 p v g (fun e=>by have:=h.fresh g hg;omega)
theorem New.from {T:TypeId} {w0 w w' : World} {u:Value} {xs:List Int} (h:New T w w' u xs) (hs:w0.heap.size <= w.heap.size):New T w0 w' u xs:=by
 refine ⟨⟨h.own.1, ?_⟩,h.le,h.all⟩
 rcases h.own.2 with h2 | ⟨g,cap,cur,hv,hb,r⟩
 ·exact .inl h2
 exact .inr ⟨g,cap,cur,hv,by omega,r⟩
theorem Row.other {W:World} {v:Value} {n size:Nat} {cs:List Value} (h:Row W v n size cs) {p:Addr} (u:Value) (hp:∀ g,v.ownBlock=some g -> g ≠ p.block):Row (W.setCell p u) v n size cs:=by
 obtain ⟨hl,hbig,a,cap,rfl,hnc,hcm,hnone,hc⟩:=h
 refine ⟨hl,hbig,a,cap,rfl,hnc,hcm,hnone,fun ad ha j x hj => ?_⟩
 have h1:=hc ad ha j x hj
 have hne:(ad.add j).block ≠ p.block:=by rw [aBF];exact hp _ (by rw [ha];rfl)
 have hh:=Below.heap_setCell W p u (ad.add j).block hne
 rw [World.cell?_of_block (w:=W) (a:=ad.add j) hh];exact h1
theorem Ints.other {W:World} {v:Value} {xs:List Int} (h:Ints W v xs) {p:Addr} (u:Value) (hp:∀ g,v.ownBlock=some g -> g ≠ p.block):Ints (W.setCell p u) v xs:=⟨h.1.other u hp,h.2⟩
open Go.RowKit Go.ChangeShapes Go.WideShapes Go.ChangeAt
def iB {α : Type} (P:Program) (t:TypeId) (R:World -> List Value -> α -> Prop):Prop :=
 ∀ (H:Type) (enc:TypeId × Value -> H) (W:World) (fuel:Nat) (cs:List Value) (x:DataW H × List MemPlace),
  DataW.trod enc P W 0 (fun _=>true) true fuel t cs=some x -> (∀ n ∈ x.1.weights P t,n <= reachBytes) -> ∃ y,R W cs y
def gA {α : Type} (R:World -> List Value -> α -> Prop):Prop := ∀ W W' cs x,R W cs x -> Below W.heap.size W W' -> R W' cs x
theorem iB.mono {α β : Type} {P:Program} {t:TypeId} {R:World -> List Value -> α -> Prop} {R' : World -> List Value -> β -> Prop} (h:iB P t R) (k:∀ W cs y,R W cs y -> ∃ z,R' W cs z):iB P t R' :=
 fun H enc W fuel cs x hx hw=>let ⟨y,hy⟩:=h H enc W fuel cs x hx hw;k W cs y hy
def IntR (k:IntKind) (_:World) (cs:List Value) (n:Int):Prop:=cs=[.int k n]/\(Lit.int k n).wf=true
theorem aAZ {P:Program} {t:TypeId} {k:IntKind} (ht:P.underlying t=some (.int k)):iB P t (IntR k):=by
 intro H enc W fuel cs x hx _
 obtain ⟨n,rfl,_,hw⟩:=DataW.trod_int ht hx
 exact ⟨n,rfl,hw⟩
theorem IntR.lasting {k:IntKind}:gA (IntR k):=fun _ _ _ _ h _=>h
def eQ {α : Type} (R:World -> List Value -> α -> Prop) (size:Nat) (W:World) (v:Value) (xs:List α):Prop :=
 ∃ cs:List Value,Row W v xs.length size cs /\ ∀ j x,xs[j]? = some x -> R W ((cs.drop (j * size)).take size) x
def pB {α : Type} (R:World -> List Value -> α -> Prop) (size:Nat) (W:World) (cs:List Value) (xs:List α):Prop := ∃ v,cs=[v]/\eQ R size W v xs
theorem eQ.below {α : Type} {R:World -> List Value -> α -> Prop} (hR:gA R) {size:Nat} {W W' : World} {v:Value} {xs:List α} (h:eQ R size W v xs) (hb:Below W.heap.size W W'):eQ R size W' v xs:=by
 obtain ⟨cs,h1,h2⟩:=h
 exact ⟨cs,h1.below hb,fun j x hj=>hR _ _ _ _ (h2 j x hj) hb⟩
theorem pB.lasting {α : Type} {R:World -> List Value -> α -> Prop} (hR:gA R) {size:Nat}:gA (pB R size):=fun _ _ _ _ ⟨v,h1,h2⟩ hb=>⟨v,h1,h2.below hR hb⟩
theorem eQ.nil {α : Type} {R:World -> List Value -> α -> Prop} {size:Nat} {W:World}:eQ R size W (.slice none 0 0) ([] : List α):=⟨[],Row.nil,by simp⟩
theorem eQ.le {α : Type} {R:World -> List Value -> α -> Prop} {size:Nat} {W:World} {v:Value} {xs:List α} (h:eQ R size W v xs):xs.length <= 17592186044416:=by obtain ⟨cs,h1,_⟩:=h;exact h1.big
theorem eQ.parts {α : Type} {R:World -> List Value -> α -> Prop} {size:Nat} {W:World} {v:Value} {xs:List α} (hs:0 < size) (h:eQ R size W v xs) :
  ∃ a cap b off,v = .slice a xs.length cap/\xs.length <= cap/\cap <= 9223372036854775807/\xs.length <= 17592186044416/\(0 < xs.length -> a=some ⟨b,off,none⟩/\b < W.heap.size) /\
   ∀ j x,xs[j]? = some x -> ∃ ds,R W ds x/\ds.length=size /\ ∀ i u,ds[i]? = some u -> W.cell? ⟨b,off+j * size+i,none⟩=some u:=by
 obtain ⟨cs,h1,h2⟩:=h
 have hl:=h1.len
 obtain ⟨a,cap,b,off,hv,k1,k2,k3,k4⟩:=h1.parts
 refine ⟨a,cap,b,off,hv,k1,by unfold maxLen at k2;omega,h1.big,fun hp=>k3 (by rw [hl];exact Nat.mul_pos hp hs),fun j x hj=>⟨_,h2 j x hj, ?_,fun i u hi => ?_⟩⟩
 ·have hjl:=(aE.1 hj).1
  rw [aX,dT,hl]
  have:(j+1) * size <= xs.length * size:=eD _ hjl
  rw [Nat.add_mul,Nat.one_mul] at this
  omega
 ·rw [bE] at hi
  split at hi
  ·rw [cH] at hi
   rw [Nat.add_assoc];exact k4 _ _ hi
  cases hi
theorem uA {α : Type} (n:Nat) (p:Nat -> α -> Prop) (h:∀ i,i < n -> ∃ x,p i x):∃ l:List α,l.length=n /\ ∀ i x,l[i]? = some x -> p i x:=by
 induction n with
 | zero=>exact ⟨[],rfl,by simp⟩
 | succ n ih =>
  obtain ⟨l,h1,h2⟩:=ih fun i hi=>h i (by omega)
  obtain ⟨x,hx⟩:=h n (by omega)
  refine ⟨l ++ [x],by simp [h1],fun i y hy => ?_⟩
  by_cases hi:i < n
  ·rw [dE (by omega)] at hy;exact h2 i y hy
  have hlt:=(aE.1 hy).1
  simp [h1] at hlt
  obtain rfl:i=n:=by omega
  rw [cI (by omega)] at hy
  simp [h1] at hy
  subst hy;exact hx
theorem jU {α : Type} {P:Program} {t e:TypeId} {size B:Nat} {R:World -> List Value -> α -> Prop} (ht:P.underlying t=some (.slice e)) (hc:P.cellsOf e=size) (hb:P.bytesOf e=B) (hs:0 < size) (hB:8 <= B) (hR:iB P e R) :
  iB P t (pB R size):=by
 intro H enc W fuel cs x hx hw
 rcases Go.Deep.open_slice ht hx with ⟨rfl,rfl⟩ | ⟨a,len,cap,m,n,D,Pl,rfl,_,hl,hm,hmm,rfl,hel⟩
 ·exact ⟨[],_,rfl,eQ.nil⟩
 ·simp only [if_true] at hmm
  subst hmm
  rw [hc] at hel
  have hwt:=hw ((len+(m - len)) * B) (by simp [DataW.weights,ht,hb])
  have hlen:len <= 17592186044416:=by
   have:(len+(m - len)) * 8 <= (len+(m - len)) * B:=Nat.mul_le_mul_left _ hB
   simp only [reachBytes] at hwt
   omega
  have each:∀ i,i < len -> ∃ q:List Value × α,W.cells? 0 (a.add (i * size)) size=some q.1/\R W q.1 q.2:=fun i hi=>by
   obtain ⟨cs',h1,h2⟩:=hel i (by omega)
   obtain ⟨y,hy⟩:=hR H enc W n cs' _ h2 (fun k hk=>hw k (by
    simp only [DataW.weights,ht,bM,aO]
    exact .inr (.inl (mD (d:=D i) (List.mem_map.2 ⟨i,by simpa using hi,rfl⟩) _ hk))))
   exact ⟨(cs',y),h1,hy⟩
  obtain ⟨l,hll,hl2⟩:=uA len _ each
  have cell:∀ j q r,l[j]? = some q -> r < size -> W.cell? (a.add (j * size+r))=q.1[r]? /\ q.1.length=size:=fun j q r hj hr=>by
   obtain ⟨_,h2,h3⟩:=World.cells?_some (hl2 j q hj).1
   have:=h3 r hr
   rw [aFT] at this
   exact ⟨this,h2⟩
  refine ⟨l.map (·.2),_,rfl,(List.range (len * size)).map (fun k=>(W.cell? (a.add k)).getD undef),⟨by simp [hll],by simp [hll,hlen],some a,m,by simp [hll],by simp [hll];omega,hm,by simp,fun ad ha j u hj => ?_⟩,fun j x hj => ?_⟩
  ·cases ha
   have hjl:=(aE.1 hj).1
   simp at hjl
   have hjd:j / size < len:=(Nat.div_lt_iff_lt_mul hs).2 hjl
   have hq:=aB (l:=l) (i:=j / size) (by omega)
   obtain ⟨h1,h2⟩:=cell (j / size) _ (j % size) hq (Nat.mod_lt _ hs)
   have he:j / size * size+j % size=j:=by rw [Nat.mul_comm];exact Nat.div_add_mod _ _
   rw [he] at h1
   rw [aB (by rw [h2];exact Nat.mod_lt _ hs)] at h1
   simp [hjl,h1] at hj
   rw [h1,hj]
  rw [aU] at hj
  cases hq:l[j]? with
  | none=>rw [hq] at hj;cases hj
  | some q =>
   rw [hq] at hj
   simp at hj
   subst hj
   have hjl:=(aE.1 hq).1
   have hm2:(j+1) * size <= len * size:=eD _ (by omega)
   rw [Nat.add_mul,Nat.one_mul] at hm2
   have e:(((List.range (len * size)).map (fun k=>(W.cell? (a.add k)).getD undef)).drop (j * size)).take size=q.1:=by
    obtain ⟨_,h2,_⟩:=World.cells?_some (hl2 j q hq).1
    apply bN
    intro r
    rw [bE]
    by_cases hr:r < size
    ·rw [if_pos hr,cH,aU,List.getElem?_range (by omega)]
     simp only [cS]
     rw [(cell j q r hq hr).1,aB (by omega)]
     rfl
    rw [if_neg hr,aW (by omega)]
   rw [e];exact (hl2 j q hq).2
theorem aCM {α : Type} {H:Type} {enc:TypeId × Value -> H} {P:Program} {W:World} {t:TypeId} {v:Value} {d:DataW H} {ps:List MemPlace} {R:World -> List Value -> α -> Prop} (hR:iB P t R)
  (h:DataW.Trod enc P W 0 (fun _=>true) true t v d ps) (hz:∀ n ∈ d.weights P t,n <= reachBytes):∃ y,R W v.cells.toList y:=by
 obtain ⟨fuel,hf⟩:=h
 exact hR H enc W fuel _ _ hf hz
theorem lJ {α : Type} {H:Type} {enc:TypeId × Value -> H} {P:Program} {W:World} {t:TypeId} {fs:Array Field} {v:Value} {d:DataW H} {ps:List MemPlace} {R:World -> List Value -> α -> Prop} {base:Nat} (ht:P.underlying t=some (.struct fs)) (hR:iB P t R)
  (hval:Value.okWide P W .any base t v) (h:DataW.Trod enc P W 0 (fun _=>true) true t v d ps) (hz:∀ n ∈ d.weights P t,n <= reachBytes):∃ cs x,v = .agg cs/\R W cs.toList x:=by
 obtain ⟨x,hx⟩:=aCM hR h hz
 obtain ⟨cs,rfl,_⟩:=okWide_struct ht hval
 exact ⟨cs,x,rfl,hx⟩
def qV {α0 α1:Type} (R0:World -> List Value -> α0 -> Prop) (R1:World -> List Value -> α1 -> Prop) (s:Nat) (W:World) (cs:List Value) (y : α0 × α1):Prop :=
 ∃ d0 d1:List Value,cs=d0 ++ d1/\cs.length=s/\R0 W d0 y.1/\R1 W d1 y.2
theorem qW {α0 α1:Type} {P:Program} {t:TypeId} {f0 f1:Field} {s0 s1:Nat} {R0:World -> List Value -> α0 -> Prop} {R1:World -> List Value -> α1 -> Prop} (ht:P.underlying t=some (.struct #[f0,f1])) (hC:P.cellsOf t=s0+s1) (o0:f0.offset=0) (o1:f1.offset=s0) (c0:P.cellsOf f0.type=s0) (c1:P.cellsOf f1.type=s1) (h0:iB P f0.type R0) (h1:iB P f1.type R1) :
  iB P t (qV R0 R1 (s0+s1)):=by
 intro H enc W fuel cs x hx hw
 obtain ⟨xs,n,_,rfl,hl,hlen,hf⟩:=DataW.trod_struct ht hx
 match xs,hlen with
 | [x0,x1],_ =>
  have k0:=hf 0 f0 rfl
  rw [o0,c0] at k0
  obtain ⟨y0,r0⟩   := h0 H enc W n _ x0 (by simpa using k0) (fun m hm=>hw m (by simp only [DataW.weights,ht];exact DataW.weights_mem_each (j:=0) (t:=f0.type) (d:=x0.1) rfl rfl m hm))
  have k1:=hf 1 f1 rfl
  rw [o1,c1] at k1
  obtain ⟨y1,r1⟩   := h1 H enc W n _ x1 (by simpa using k1) (fun m hm=>hw m (by simp only [DataW.weights,ht];exact DataW.weights_mem_each (j:=1) (t:=f1.type) (d:=x1.1) rfl rfl m hm))
  refine ⟨(y0,y1),(cs.drop 0).take s0,(cs.drop (s0)).take s1, ?_,hl.trans hC,r0,r1⟩
  rw [hC] at hl
  apply bN
  intro j
  simp only [aT,dB,aX,dT,bE,cH]
  (repeat' split) <;> first | (congr 1;omega) | (rw [aW (by omega)]) | omega | rfl
theorem qV.lasting {α0 α1:Type} {R0:World -> List Value -> α0 -> Prop} {R1:World -> List Value -> α1 -> Prop} {s:Nat} (h0:gA R0) (h1:gA R1):gA (qV R0 R1 s) :=
 fun _ _ _ _ ⟨d0,d1,e,hl,r0,r1⟩ hb=>⟨d0,d1,e,hl,h0 _ _ _ _ r0 hb,h1 _ _ _ _ r1 hb⟩
def qX {α0 α1 α2:Type} (R0:World -> List Value -> α0 -> Prop) (R1:World -> List Value -> α1 -> Prop) (R2:World -> List Value -> α2 -> Prop) (s:Nat) (W:World) (cs:List Value) (y : α0 × α1 × α2):Prop :=
 ∃ d0 d1 d2:List Value,cs=d0 ++ (d1 ++ d2)/\cs.length=s/\R0 W d0 y.1/\R1 W d1 y.2.1/\R2 W d2 y.2.2
theorem qY {α0 α1 α2:Type} {P:Program} {t:TypeId} {f0 f1 f2:Field} {s0 s1 s2:Nat} {R0:World -> List Value -> α0 -> Prop} {R1:World -> List Value -> α1 -> Prop} {R2:World -> List Value -> α2 -> Prop} (ht:P.underlying t=some (.struct #[f0,f1,f2])) (hC:P.cellsOf t=s0+s1+s2) (o0:f0.offset=0) (o1:f1.offset=s0) (o2:f2.offset=s0+s1) (c0:P.cellsOf f0.type=s0) (c1:P.cellsOf f1.type=s1) (c2:P.cellsOf f2.type=s2) (h0:iB P f0.type R0) (h1:iB P f1.type R1) (h2:iB P f2.type R2) :
  iB P t (qX R0 R1 R2 (s0+s1+s2)):=by
 intro H enc W fuel cs x hx hw
 obtain ⟨xs,n,_,rfl,hl,hlen,hf⟩:=DataW.trod_struct ht hx
 match xs,hlen with
 | [x0,x1,x2],_ =>
  have k0:=hf 0 f0 rfl
  rw [o0,c0] at k0
  obtain ⟨y0,r0⟩   := h0 H enc W n _ x0 (by simpa using k0) (fun m hm=>hw m (by simp only [DataW.weights,ht];exact DataW.weights_mem_each (j:=0) (t:=f0.type) (d:=x0.1) rfl rfl m hm))
  have k1:=hf 1 f1 rfl
  rw [o1,c1] at k1
  obtain ⟨y1,r1⟩   := h1 H enc W n _ x1 (by simpa using k1) (fun m hm=>hw m (by simp only [DataW.weights,ht];exact DataW.weights_mem_each (j:=1) (t:=f1.type) (d:=x1.1) rfl rfl m hm))
  have k2:=hf 2 f2 rfl
  rw [o2,c2] at k2
  obtain ⟨y2,r2⟩   := h2 H enc W n _ x2 (by simpa using k2) (fun m hm=>hw m (by simp only [DataW.weights,ht];exact DataW.weights_mem_each (j:=2) (t:=f2.type) (d:=x2.1) rfl rfl m hm))
  refine ⟨(y0,y1,y2),(cs.drop 0).take s0,(cs.drop (s0)).take s1,(cs.drop (s0+s1)).take s2, ?_,hl.trans hC,r0,r1,r2⟩
  rw [hC] at hl
  apply bN
  intro j
  simp only [aT,dB,aX,dT,bE,cH]
  (repeat' split) <;> first | (congr 1;omega) | (rw [aW (by omega)]) | omega | rfl
theorem qX.lasting {α0 α1 α2:Type} {R0:World -> List Value -> α0 -> Prop} {R1:World -> List Value -> α1 -> Prop} {R2:World -> List Value -> α2 -> Prop} {s:Nat} (h0:gA R0) (h1:gA R1) (h2:gA R2):gA (qX R0 R1 R2 s) :=
 fun _ _ _ _ ⟨d0,d1,d2,e,hl,r0,r1,r2⟩ hb=>⟨d0,d1,d2,e,hl,h0 _ _ _ _ r0 hb,h1 _ _ _ _ r1 hb,h2 _ _ _ _ r2 hb⟩
def qZ {α0 α1 α2 α3:Type} (R0:World -> List Value -> α0 -> Prop) (R1:World -> List Value -> α1 -> Prop) (R2:World -> List Value -> α2 -> Prop) (R3:World -> List Value -> α3 -> Prop) (s:Nat) (W:World) (cs:List Value) (y : α0 × α1 × α2 × α3):Prop :=
 ∃ d0 d1 d2 d3:List Value,cs=d0 ++ (d1 ++ (d2 ++ d3))/\cs.length=s/\R0 W d0 y.1/\R1 W d1 y.2.1/\R2 W d2 y.2.2.1/\R3 W d3 y.2.2.2
theorem jL {α0 α1 α2 α3:Type} {P:Program} {t:TypeId} {f0 f1 f2 f3:Field} {s0 s1 s2 s3:Nat} {R0:World -> List Value -> α0 -> Prop} {R1:World -> List Value -> α1 -> Prop} {R2:World -> List Value -> α2 -> Prop} {R3:World -> List Value -> α3 -> Prop} (ht:P.underlying t=some (.struct #[f0,f1,f2,f3])) (hC:P.cellsOf t=s0+s1+s2+s3) (o0:f0.offset=0) (o1:f1.offset=s0) (o2:f2.offset=s0+s1) (o3:f3.offset=s0+s1+s2) (c0:P.cellsOf f0.type=s0) (c1:P.cellsOf f1.type=s1) (c2:P.cellsOf f2.type=s2) (c3:P.cellsOf f3.type=s3) (h0:iB P f0.type R0) (h1:iB P f1.type R1) (h2:iB P f2.type R2) (h3:iB P f3.type R3) :
  iB P t (qZ R0 R1 R2 R3 (s0+s1+s2+s3)):=by
 intro H enc W fuel cs x hx hw
 obtain ⟨xs,n,_,rfl,hl,hlen,hf⟩:=DataW.trod_struct ht hx
 match xs,hlen with
 | [x0,x1,x2,x3],_ =>
  have k0:=hf 0 f0 rfl
  rw [o0,c0] at k0
  obtain ⟨y0,r0⟩   := h0 H enc W n _ x0 (by simpa using k0) (fun m hm=>hw m (by simp only [DataW.weights,ht];exact DataW.weights_mem_each (j:=0) (t:=f0.type) (d:=x0.1) rfl rfl m hm))
  have k1:=hf 1 f1 rfl
  rw [o1,c1] at k1
  obtain ⟨y1,r1⟩   := h1 H enc W n _ x1 (by simpa using k1) (fun m hm=>hw m (by simp only [DataW.weights,ht];exact DataW.weights_mem_each (j:=1) (t:=f1.type) (d:=x1.1) rfl rfl m hm))
  have k2:=hf 2 f2 rfl
  rw [o2,c2] at k2
  obtain ⟨y2,r2⟩   := h2 H enc W n _ x2 (by simpa using k2) (fun m hm=>hw m (by simp only [DataW.weights,ht];exact DataW.weights_mem_each (j:=2) (t:=f2.type) (d:=x2.1) rfl rfl m hm))
  have k3:=hf 3 f3 rfl
  rw [o3,c3] at k3
  obtain ⟨y3,r3⟩   := h3 H enc W n _ x3 (by simpa using k3) (fun m hm=>hw m (by simp only [DataW.weights,ht];exact DataW.weights_mem_each (j:=3) (t:=f3.type) (d:=x3.1) rfl rfl m hm))
  refine ⟨(y0,y1,y2,y3),(cs.drop 0).take s0,(cs.drop (s0)).take s1,(cs.drop (s0+s1)).take s2,(cs.drop (s0+s1+s2)).take s3, ?_,hl.trans hC,r0,r1,r2,r3⟩
  rw [hC] at hl
  apply bN
  intro j
  simp only [aT,dB,aX,dT,bE,cH]
  (repeat' split) <;> first | (congr 1;omega) | (rw [aW (by omega)]) | omega | rfl
theorem qZ.lasting {α0 α1 α2 α3:Type} {R0:World -> List Value -> α0 -> Prop} {R1:World -> List Value -> α1 -> Prop} {R2:World -> List Value -> α2 -> Prop} {R3:World -> List Value -> α3 -> Prop} {s:Nat} (h0:gA R0) (h1:gA R1) (h2:gA R2) (h3:gA R3):gA (qZ R0 R1 R2 R3 s) :=
 fun _ _ _ _ ⟨d0,d1,d2,d3,e,hl,r0,r1,r2,r3⟩ hb=>⟨d0,d1,d2,d3,e,hl,h0 _ _ _ _ r0 hb,h1 _ _ _ _ r1 hb,h2 _ _ _ _ r2 hb,h3 _ _ _ _ r3 hb⟩
structure Own (W:World) (base:Nat) (bs:List Nat) (e:TypeId) (size:Nat) (v:Value) (n:Nat) (cs:List Value):Prop where
 row:W.ownsRow base e size v n cs
 free:∀ g,v.ownBlock=some g -> g ∉ bs
theorem Own.nil {W:World} {base:Nat} {bs:List Nat} {e:TypeId} {size:Nat}:Own W base bs e size (.slice none 0 0) 0 [] :=
 ⟨⟨by simp,.inl ⟨rfl,rfl⟩⟩,fun g h=>by cases h⟩
theorem Own.lt {W:World} {base:Nat} {bs:List Nat} {e:TypeId} {size:Nat} {v:Value} {n:Nat} {cs:List Value} (h:Own W base bs e size v n cs) {g:Nat} (hg:v.ownBlock=some g):g < W.heap.size/\base <= g:=by
 rcases h.row.2 with ⟨rfl,_⟩ | ⟨g',cap,cur,rfl,hb,hh,_⟩
 ·cases hg
 cases hg;exact ⟨(aS.1 hh).1,hb⟩
theorem Own.keep {W W' : World} {base:Nat} {bs:List Nat} {e:TypeId} {size:Nat} {v:Value} {n:Nat} {cs:List Value} (h:Own W base bs e size v n cs) (hk:∀ g,v.ownBlock=some g -> W'.heap[g]? = W.heap[g]?):Own W' base bs e size v n cs:=by
 refine ⟨⟨h.row.1, ?_⟩,h.free⟩
 rcases h.row.2 with h2 | ⟨g,cap,cur,hv,hb,hh,r⟩
 ·exact .inl h2
 exact .inr ⟨g,cap,cur,hv,hb,by rw [hk g (by rw [hv];rfl)];exact hh,r⟩
theorem Own.later {W W' : World} {base:Nat} {bs:List Nat} {e:TypeId} {size:Nat} {v:Value} {n:Nat} {cs:List Value} (h:Own W base bs e size v n cs) (hb:Below W.heap.size W W'):Own W' base bs e size v n cs :=
 h.keep fun g hg=>hb.block g (h.lt hg).1
theorem Own.alloc {W:World} {base:Nat} {bs:List Nat} {e:TypeId} {size:Nat} {v:Value} {n:Nat} {cs:List Value} (h:Own W base bs e size v n cs) (o:Obj):Own (W.alloc o) base bs e size v n cs :=
 h.later ((Below.refl _ _).alloc (aF _) o)
theorem Own.other {W:World} {base:Nat} {bs:List Nat} {e:TypeId} {size:Nat} {v:Value} {n:Nat} {cs:List Value} (h:Own W base bs e size v n cs) {p:Addr} (u:Value) (hp:p.block ∈ bs):Own (W.setCell p u) base bs e size v n cs :=
 h.keep fun g hg=>Below.heap_setCell W p u g (fun e=>h.free g hg (e ▸ hp))
theorem Own.more {W:World} {base:Nat} {bs:List Nat} {e:TypeId} {size:Nat} {v:Value} {n:Nat} {cs:List Value} (h:Own W base bs e size v n cs) {b:Nat} (hb:W.heap.size <= b):Own W base (b :: bs) e size v n cs :=
 ⟨h.row,fun g hg hm=>by
  rcases bM.1 hm with rfl | hm
  ·have:=(h.lt hg).1;omega
  exact h.free g hg hm⟩
theorem Own.less {W:World} {base:Nat} {bs bs' : List Nat} {e:TypeId} {size:Nat} {v:Value} {n:Nat} {cs:List Value} (h:Own W base bs e size v n cs) (hb:∀ b ∈ bs',b ∈ bs):Own W base bs' e size v n cs :=
 ⟨h.row,fun g hg hm=>h.free g hg (hb g hm)⟩
theorem Own.reads {W:World} {base:Nat} {bs:List Nat} {e:TypeId} {size:Nat} {v:Value} {n:Nat} {cs:List Value} (h:Own W base bs e size v n cs) (hn:n <= 17592186044416):Row W v n size cs:=Row.of_own h.row hn
theorem Own.form {W:World} {base:Nat} {bs:List Nat} {e:TypeId} {size:Nat} {v:Value} {n:Nat} {cs:List Value} (h:Own W base bs e size v n cs):∃ a c,v = .slice a n c:=by
 rcases h.row.2 with ⟨rfl,rfl⟩ | ⟨g,cap,cur,rfl,_⟩
 ·exact ⟨_,_,rfl⟩
 exact ⟨_,_,rfl⟩
theorem Row.of_box {W:World} {b n size:Nat} {A:Array Value} (h:Box W b A) (hs:A.size=n * size) (hn:n <= 17592186044416):Row W (.slice (some ⟨b,0,none⟩) n n) n size A.toList:=by
 refine ⟨by simpa using hs,hn,some ⟨b,0,none⟩,n,rfl,Nat.le_refl _,by unfold maxLen;omega,by simp,fun ad ha j u hj => ?_⟩
 cases ha
 rw [sY,bH,h.cell]
 simpa using hj
theorem fZ {P:Program} {w:World} {ops:Array Oper} {rest:List Oper} {o:Oper} {a:Act} {Q:Exit -> Act -> World -> Prop} (hgd:o.guard=none) (s x:Operand) (t e:TypeId)
  (ho:o.op = .call { callee:=.builtin .append,args:=#[s,x],argTypes:=#[t,t] }) {z:Value} {size bytes:Nat} (he:Elem P t e z size bytes) {base:Nat} {bs:List Nat}
  {v xv:Value} {n m:Nat} {cs news:List Value} (hs:a.eval s=v) (hx:a.eval x=xv) (HO:Own w base bs e size v n cs) (hr:Row w xv m size news)
  (h1:∀ u ∈ news,u.oneCell' = true) (h63:n+m <= maxLen) (hbytes:(n+m) * bytes <= 140737488355328) (hbase:base <= w.heap.size) (hbs:∀ b ∈ bs,b < w.heap.size)
  (h:∀ v' w',Own w' base bs e size v' (n+m) (cs ++ news) -> (∀ b A,b ∈ bs -> Box w b A -> Box w' b A) -> Below base w w' -> wpList P ops Q rest (a.put o.dst v') w'):wpList P ops Q (o :: rest) a w:=by
 refine kE hgd s x t e ho he base hs hx HO.row hr h1 h63 hbytes hbase fun v' w' r1 r2 r3=>h v' w' ⟨r1,fun g hg hm => ?_⟩ (fun b A hb hB => ?_) ?_
 ·rcases r3 with e3 | e3
  ·rw [e3] at hg;exact HO.free g hg hm
  rw [e3] at hg;cases hg;exact absurd (hbs _ hm) (by omega)
 ·have hbl:w'.heap[b]? = w.heap[b]?:=r2.block b hB.lt (fun e=>HO.free b e.symm hb)
  exact ⟨aL hB.lt r2.size,fun o=>(World.cell?_of_block (w:=w) (a:=⟨b,o,none⟩) hbl).trans (hB.cell o),fun o=>(World.frozen?_of_block (w:=w) (a:=⟨b,o,none⟩) hbl).trans (hB.free o)⟩
 ·exact (Below.refl _ _).grown r2 hbase fun k hk=>(HO.lt hk).2
structure PhiD where
 id:Int
 typ:Int
 src:List Int
 vals:List Int
 deriving DecidableEq,Inhabited
structure InstrD where
 op:Int
 id:Int
 args:List Int
 n:Int
 deriving DecidableEq,Inhabited
structure TermD where
 op:Int
 val:Int
 to:List Int
 n:Int
 deriving DecidableEq,Inhabited
structure BlockD where
 phis:List PhiD
 code:List InstrD
 term:TermD
 deriving DecidableEq,Inhabited
structure FuncD where
 params:List Int
 arrays:Int
 cells:Int
 blocks:List BlockD
 deriving DecidableEq,Inhabited
def NumR (_:World) (cs:List Value) (x:Int):Prop:=cs=[.int .i64 x]/\In64 x
def aEW (W:World) (cs:List Value) (xs:List Int):Prop := ∃ v,cs=[v]/\Ints W v xs
def PhiR (W:World) (cs:List Value) (p:PhiD):Prop := ∃ v u,cs=[.int .i64 p.id,.int .i64 p.typ,v,u]/\Ints W v p.src/\Ints W u p.vals/\In64 p.id/\In64 p.typ
def kY (W:World) (cs:List Value) (x:InstrD):Prop := ∃ v,cs=[.int .i64 x.op,.int .i64 x.id,v,.int .i64 x.n]/\Ints W v x.args/\In64 x.op/\In64 x.id/\In64 x.n
def aA0 (W:World) (cs:List Value) (t:TermD):Prop := ∃ v,cs=[.int .i64 t.op,.int .i64 t.val,v,.int .i64 t.n]/\Ints W v t.to/\In64 t.op/\In64 t.val/\In64 t.n
def gF (W:World) (cs:List Value) (b:BlockD):Prop := ∃ v u t,cs=v :: u :: t/\eQ PhiR 4 W v b.phis/\eQ kY 4 W u b.code/\aA0 W t b.term
def aEX (W:World) (cs:List Value) (f:FuncD):Prop := ∃ v u,cs=[v,.int .i64 f.arrays,.int .i64 f.cells,u]/\Ints W v f.params/\In64 f.arrays/\In64 f.cells/\eQ gF 6 W u f.blocks
theorem PhiR.lasting:gA PhiR:=fun _ _ _ _ ⟨v,u,e,h1,h2,r⟩ hb=>⟨v,u,e,h1.below hb,h2.below hb,r⟩
theorem kY.lasting:gA kY:=fun _ _ _ _ ⟨v,e,h1,r⟩ hb=>⟨v,e,h1.below hb,r⟩
theorem aA0.lasting:gA aA0:=fun _ _ _ _ ⟨v,e,h1,r⟩ hb=>⟨v,e,h1.below hb,r⟩
theorem gF.lasting:gA gF:=fun _ _ _ _ ⟨v,u,t,e,h1,h2,h3⟩ hb=>⟨v,u,t,e,h1.below PhiR.lasting hb,h2.below kY.lasting hb,aA0.lasting _ _ _ _ h3 hb⟩
theorem aEX.lasting:gA aEX:=fun _ _ _ _ ⟨v,u,e,h1,h2,h3,h4⟩ hb=>⟨v,u,e,h1.below hb,h2,h3,h4.below gF.lasting hb⟩
theorem aEY {x:Int} (h:(Lit.int .i64 x).wf=true):In64 x:=by
 simpa [Lit.wf,IntKind.min,IntKind.max,IntKind.signed,IntKind.bits,In64] using h
theorem uB {α : Type} {R:World -> List Value -> α -> Prop} {size:Nat} {W:World} {v:Value} {xs:List α} (enc : α -> List Value) (h:eQ R size W v xs) (he:∀ ds x,R W ds x -> ds=enc x) (hl:∀ x,(enc x).length=size) :
  Row W v xs.length size (xs.flatMap enc):=by
 obtain ⟨cs,h1,h2⟩:=h
 have:cs=xs.flatMap enc:=by
  have hlen:=h1.len
  clear h1
  induction xs generalizing cs with
  | nil=>simp at hlen;simp [hlen]
  | cons x xs ih =>
   have h0:=he _ _ (h2 0 x rfl)
   simp only [Nat.zero_mul,aT] at h0
   rw [bB,Nat.add_mul,Nat.one_mul] at hlen
   have h3:=ih (cs.drop size) (fun j y hj=>by
    have:=h2 (j+1) y hj
    rw [List.drop_drop]
    rw [Nat.add_mul,Nat.one_mul,Nat.add_comm] at this
    exact this) (by rw [dT];omega)
   rw [cG, <-h0, <-h3,cV]
 rw [<-this];exact h1
theorem vL {α β : Type} (f : α -> β) (xs:List α):xs.flatMap (fun x=>[f x])=xs.map f:=by
 induction xs with
 | nil=>rfl
 | cons x xs ih=>simp [ih]
theorem aEZ {W:World} {v:Value} {xs:List Int} (h:eQ NumR 1 W v xs):Ints W v xs:=by
 have h1:=uB (fun x:Int=>[Value.int .i64 x]) h (fun _ _ h=>h.1) (fun _=>rfl)
 rw [vL] at h1
 refine ⟨h1,fun x hx => ?_⟩
 obtain ⟨cs,_,h2⟩:=h
 obtain ⟨j,hj,rfl⟩:=dQ hx
 exact (h2 j _ (aB hj)).2
theorem gU:iB Tryz.prog 3 NumR:=(aAZ Tryz.underlying3).mono fun W cs y h=>⟨y,h.1,aEY h.2⟩
theorem jE:iB Tryz.prog 22 aEW :=
 (jU Tryz.underlying22 (by kernel_rfl) (by kernel_rfl) (by omega) (aF 8) gU).mono fun W cs y ⟨v,e,h⟩=>⟨y,v,e,aEZ h⟩
theorem aA1:iB Tryz.prog 113 PhiR :=
 (jL Tryz.underlying113 (s0:=1) (s1:=1) (s2:=1) (s3:=1) (by kernel_rfl) rfl rfl rfl rfl (by kernel_rfl) (by kernel_rfl) (by kernel_rfl) (by kernel_rfl) gU gU jE jE).mono
  fun W cs y ⟨d0,d1,d2,d3,e,_,⟨e0,w0⟩,⟨e1,w1⟩,⟨v,e2,h2⟩,u,e3,h3⟩=>⟨⟨y.1,y.2.1,y.2.2.1,y.2.2.2⟩,v,u,by rw [e,e0,e1,e2,e3];rfl,h2,h3,w0,w1⟩
theorem uC:iB Tryz.prog 69 kY :=
 (jL Tryz.underlying69 (s0:=1) (s1:=1) (s2:=1) (s3:=1) (by kernel_rfl) rfl rfl rfl rfl (by kernel_rfl) (by kernel_rfl) (by kernel_rfl) (by kernel_rfl) gU gU jE gU).mono
  fun W cs y ⟨d0,d1,d2,d3,e,_,⟨e0,w0⟩,⟨e1,w1⟩,⟨v,e2,h2⟩,e3,w3⟩=>⟨⟨y.1,y.2.1,y.2.2.1,y.2.2.2⟩,v,by rw [e,e0,e1,e2,e3];rfl,h2,w0,w1,w3⟩
theorem xR:iB Tryz.prog 48 aA0 :=
 (jL Tryz.underlying48 (s0:=1) (s1:=1) (s2:=1) (s3:=1) (by kernel_rfl) rfl rfl rfl rfl (by kernel_rfl) (by kernel_rfl) (by kernel_rfl) (by kernel_rfl) gU gU jE gU).mono
  fun W cs y ⟨d0,d1,d2,d3,e,_,⟨e0,w0⟩,⟨e1,w1⟩,⟨v,e2,h2⟩,e3,w3⟩=>⟨⟨y.1,y.2.1,y.2.2.1,y.2.2.2⟩,v,by rw [e,e0,e1,e2,e3];rfl,h2,w0,w1,w3⟩
theorem xS:iB Tryz.prog 45 (pB PhiR 4):=jU Tryz.underlying45 (by kernel_rfl) (by kernel_rfl) (by omega) (Nat.le_of_ble_eq_true rfl:8 <= 64) aA1
theorem xT:iB Tryz.prog 46 (pB kY 4):=jU Tryz.underlying46 (by kernel_rfl) (by kernel_rfl) (by omega) (Nat.le_of_ble_eq_true rfl:8 <= 48) uC
theorem uD:iB Tryz.prog 50 gF :=
 (qY Tryz.underlying50 (s0:=1) (s1:=1) (s2:=4) (by kernel_rfl) rfl rfl rfl (by kernel_rfl) (by kernel_rfl) (by kernel_rfl) xS xT xR).mono
  fun W cs y ⟨d0,d1,d2,e,_,⟨v,e0,h0⟩,⟨u,e1,h1⟩,h2⟩=>⟨⟨y.1,y.2.1,y.2.2⟩,v,u,d2,by rw [e,e0,e1];rfl,h0,h1,h2⟩
theorem sO:iB Tryz.prog 23 (pB gF 6):=jU Tryz.underlying23 (by kernel_rfl) (by kernel_rfl) (by omega) (Nat.le_of_ble_eq_true rfl:8 <= 96) uD
theorem xU:iB Tryz.prog 25 aEX :=
 (jL Tryz.underlying25 (s0:=1) (s1:=1) (s2:=1) (s3:=1) (by kernel_rfl) rfl rfl rfl rfl (by kernel_rfl) (by kernel_rfl) (by kernel_rfl) (by kernel_rfl) jE gU gU sO).mono
  fun W cs y ⟨d0,d1,d2,d3,e,_,⟨v,e0,h0⟩,⟨e1,w1⟩,⟨e2,w2⟩,u,e3,h3⟩=>⟨⟨y.1,y.2.1,y.2.2.1,y.2.2.2⟩,v,u,by rw [e,e0,e1,e2,e3];rfl,h0,w1,w2,h3⟩
def gG (W:World) (v:Value) (f:FuncD):Prop := ∃ a b,v = .agg #[a,.int .i64 f.arrays,.int .i64 f.cells,b]/\Ints W a f.params/\In64 f.arrays/\In64 f.cells/\eQ gF 6 W b f.blocks
theorem gG.below {W W' : World} {v:Value} {f:FuncD} (h:gG W v f) (hb:Below W.heap.size W W'):gG W' v f:=by
 obtain ⟨a,b,e,h1,h2,h3,h4⟩:=h
 exact ⟨a,b,e,h1.below hb,h2,h3,h4.below gF.lasting hb⟩
set_option maxRecDepth 100000 in
theorem aCN {H:Type} {enc:TypeId × Value -> H} {W:World} {v:Value} {d:DataW H} {ps:List MemPlace} {base:Nat} (hval:Value.okWide Tryz.prog W .any base 25 v)
  (h:DataW.Trod enc Tryz.prog W 0 (fun _=>true) true 25 v d ps) (hz:∀ n ∈ d.weights Tryz.prog 25,n <= reachBytes):∃ f:FuncD,gG W v f:=by
 obtain ⟨cs,f,hv,hf⟩:=lJ Tryz.underlying25 xU hval h hz
 obtain ⟨a,b,e,r⟩:=hf
 refine ⟨f,a,b, ?_,r⟩
 rw [hv, <-Array.toArray_toList (xs:=cs),e]
end Go.Proofs.YtcmflfkpeodicaaGreat
