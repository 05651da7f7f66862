/- Part 38. -/
import Derived.Lib.SliceRun
import Derived.Test.YtagabiidbbhhmaaGreatEU37
namespace Go.Proofs.YtagabiidbbhhmaaGreat
set_option linter.all false
open Go.RowKit
theorem vD {P:Program} {w:World} {t ty e:TypeId} {z:Value} {size bytes:Nat} (he:Elem P t e z size bytes) {v xv:Value} {n m:Nat} {cs news:List Value} {G:Foot} (h:ORow w G e size v n cs) (hr:Row w xv m size news)
  (h1:∀ u ∈ news,u.oneCell' = true) (hbig:n+m <= 17592186044416) (hbytes:(n+m) * bytes <= 140737488355328) :
  ∃ v' w' G',(Builtin.append_ #[t,t] ty #[v,xv]).run P w = .ok v' w' /\ ORow w' G' e size v' (n+m) (cs ++ news)/\(∀ k,G' k -> G k \/ w.heap.size <= k)/\Off G w w' /\
   (∀ g j,v.ownBlock=some g -> j < n * size -> w'.cell? ⟨g,j,none⟩=w.cell? ⟨g,j,none⟩):=by
 have ag:n+m <= maxLen:=by unfold maxLen;omega
 have ah:∀ (base:Nat) (v' : Value) (w' : World),w'.ownsRow base e size v' (n+m) (cs ++ news) -> (∀ k,v'.ownBlock=some k -> G k \/ w.heap.size <= k) -> ∃ G',ORow w' G' e size v' (n+m) (cs ++ news) /\ ∀ k,G' k -> G k \/ w.heap.size <= k:=fun base v' w' r1 r2 =>
  ⟨fun k=>v'.ownBlock=some k,ORow.of_own r1 hbig (fun k hk=>hk) (fun k hk=>(r1.lt k hk).2),r2⟩
 have ae:=h.len
 rcases h.form with ⟨rfl,a,rfl⟩ | ⟨g,ac,al,rfl,hg,hh,k1,k2,k3,k4⟩
 ·have am:cs=[]:=List.eq_nil_of_length_eq_zero (by simpa using ae)
  subst am
  have hno:∀ g j,(Value.slice a 0 0).ownBlock=some g -> j < 0 * size -> w.cell? ⟨g,j,none⟩=w.cell? ⟨g,j,none⟩:=fun _ _ _ _=>rfl
  by_cases hm:m=0
  ·subst hm
   have hn:news=[]:=List.eq_nil_of_length_eq_zero (by simpa using hr.len)
   subst hn
   refine ⟨.slice a 0 0,w,Foot.none, ?_,ORow.nil a,fun k hk=>hk.elim,Off.refl _ _,fun g j _ hj=>by simp at hj⟩
   obtain ⟨ht,⟨i,hi,hz,ai,ak⟩,aj,hp⟩:=he
   obtain ⟨_,_,ad,ac,rfl,_,_,_,_⟩:=hr
   cases a <;> cases ad <;> simp [Builtin.append_,run_underlying ht,sizeOf,typeInfo,hi,Builtin.lenOf,Builtin.firstCells,loadCells,loadCellsFrom,storeCells]
  cases a with
  | none =>
   obtain ⟨v',w',aa,r1,r2,r3, -, -⟩:=iV (ty:=ty) he w.heap.size (World.ownsRow_nil w w.heap.size e size) hr h1 ag hbytes (aC _)
   obtain ⟨G',g1,g2⟩:=ah _ v' w' r1 (fun k hk=>.inr (r1.lt k hk).1)
   exact ⟨v',w',G',aa,g1,g2,Off.grown r2 (fun k hk=>by cases hk),fun g j _ hj=>by simp at hj⟩
  | some b =>
   obtain ⟨ht,⟨i,hi,hz,ai,ak⟩,aj,hp⟩:=he
   obtain ⟨hl,_,ad,ac,rfl,_,_,ab,hc⟩:=hr
   cases ad with
   | none=>exact absurd (ab rfl).1 hm
   | some ad =>
    obtain ⟨v',w',aa,r1,r2⟩:=run_append_arg_grows (P:=P) w t ty e i z size bytes ht hi hz ai ak aj hp b 0 0 [] (by simp) (fun j u hj=>by simp at hj) ad m ac news hl (fun j u hj=>hc ad rfl j u hj) (by omega) ag hbytes
    obtain ⟨G',g1,g2⟩:=ah _ v' w' r1 (fun k hk=>.inr (r1.lt k hk).1)
    exact ⟨v',w',G',aa,g1,g2,Off.grown r2 (fun k hk=>by cases hk),fun g j _ hj=>by simp at hj⟩
 ·have af:w.ownsRow 0 e size (.slice (some ⟨g,0,none⟩) n ac) n cs:=⟨ae,.inr ⟨g,ac,al,rfl,aH _,hh,k1,k2,k3,k4⟩⟩
  obtain ⟨v',w',aa,r1,r2,r3,r4, -⟩:=iV (ty:=ty) he 0 af hr h1 ag hbytes (aH _)
  obtain ⟨G',g1,g2⟩:=ah _ v' w' r1 (fun k hk=>by
   rcases r3 with e3 | e3
   ·rw [e3] at hk;cases hk;exact .inl hg
   rw [e3] at hk;cases hk;exact .inr (aC _))
  exact ⟨v',w',G',aa,g1,g2,Off.grown r2 (fun k hk=>by cases hk;exact hg),r4⟩
theorem mI {P:Program} {w:World} {ops:Array Oper} {rest:List Oper} {o:Oper} {a:Act} {Q:Exit -> Act -> World -> Prop} (hgd:o.guard=none) (s x:Operand) (t e:TypeId)
  (ho:o.op = .call { callee:=.builtin .append,args:=#[s,x],argTypes:=#[t,t] }) {z:Value} {size bytes:Nat} (he:Elem P t e z size bytes)
  {v xv:Value} {n m:Nat} {cs news:List Value} {G:Foot} (hs:a.eval s=v) (hx:a.eval x=xv) (h:ORow w G e size v n cs) (hr:Row w xv m size news)
  (h1:∀ u ∈ news,u.oneCell' = true) (hbig:n+m <= 17592186044416) (hbytes:(n+m) * bytes <= 140737488355328)
  (hK:∀ v' w' G',ORow w' G' e size v' (n+m) (cs ++ news) -> (∀ k,G' k -> G k \/ w.heap.size <= k) -> Off G w w' -> wpList P ops Q rest (a.put o.dst v') w'):wpList P ops Q (o :: rest) a w:=by
 obtain ⟨v',w',G',aa,r1,r2,r3, -⟩:=vD (ty:=o.type) he h hr h1 hbig hbytes
 refine wpList_plain hgd fun K hK' => ?_
 unfold Oper.wp execOp
 simp only [ho,resolve,invoke,builtin,Sem.run_bind,Sem.run_pure,Result.andThen_ok,List.map_toArray,cZ,eO,hs,hx,aa]
 exact hK' _ _ (hK v' w' G' r1 r2 r3)
theorem sJ {P:Program} {w:World} {o:Oper} {a:Act} (s x:Operand) (t e:TypeId)
  (ho:o.op = .call { callee:=.builtin .append,args:=#[s,x],argTypes:=#[t,t] }) {z:Value} {size bytes:Nat} (he:Elem P t e z size bytes)
  {v xv:Value} {n m:Nat} {cs news:List Value} {G:Foot} (hs:a.eval s=v) (hx:a.eval x=xv) (h:ORow w G e size v n cs) (hr:Row w xv m size news)
  (h1:∀ u ∈ news,u.oneCell' = true) (hbig:n+m <= 17592186044416) (hbytes:(n+m) * bytes <= 140737488355328) :
  ∃ v' w' G',(execOp a.eval o).run P w = .ok (.value v') w' /\ ORow w' G' e size v' (n+m) (cs ++ news)/\(∀ k,G' k -> G k \/ w.heap.size <= k)/\Off G w w' /\
   (∀ g j,v.ownBlock=some g -> j < n * size -> w'.cell? ⟨g,j,none⟩=w.cell? ⟨g,j,none⟩):=by
 obtain ⟨v',w',G',aa,r⟩:=vD (ty:=o.type) he h hr h1 hbig hbytes
 refine ⟨v',w',G', ?_,r⟩
 unfold execOp
 simp only [ho,resolve,invoke,builtin,Sem.run_bind,Sem.run_pure,Result.andThen_ok,List.map_toArray,cZ,eO,hs,hx,aa]
def kC (base:Nat) (S:Foot):Prop := ∀ k,S k -> base <= k
theorem kC.off {base:Nat} {S D:Foot} (h:kC base S) (hD:∀ k,D k -> k < base):S.off D:=fun k hs hd=>by have:=h k hs;have:=hD k hd;omega
def aF7 (xs:List Int) (w:World) (e:Ending) (w' : World):Prop := ∃ u S,e = .returned u/\eR w' S u xs/\kC w.heap.size S/\Below w.heap.size w w'
set_option maxHeartbeats 1600000 in
theorem sK {w:World} {v:Value} {xs:List Int} (hs:Ints w v xs):Calls Tryz.prog 90 #[v] w (aF7 xs w):=by
 have q4:∀ (w:World) (a:Option Addr) (n c n' c' : Nat),(binOp .eql 22 (.slice a n c) (.slice none n' c')).run Tryz.prog w = .ok (.bool a.isNone) w:=fun w a n c n' c'=>Lib.run_eql_slice_nil w _ _ a n c n' c' Tryz.underlying22
 obtain ⟨a,c,b,o,rfl, -, -,ha, -⟩:=hs.parts
 have HS:=h! hs
 obtain ⟨n,hn⟩ : ∃ n,n=xs.length:=⟨_,rfl⟩
 have HN:=h! hn
 rw [<-hn] at HS ha ⊢
 have HA:=h! ha
 clear hs ha hn
 cases a with
 | none =>
  have hx:xs=[]:=by
   have h:=HA.out
   refine bZ ?_
   rw [<-HN.out]
   exact Classical.byContradiction fun h2=>by have:=(h (by omega)).1;cases this
  have HX:=h! hx
  clear hx
  go_enter Tryz.func90,Tryz.ntmps90
  go_wp2
  go_ret
  exact ⟨_,Foot.none,rfl,by rw [HX.out];exact eR.nil none,fun k hk=>hk.elim,Below.refl _ _⟩
 | some ad =>
  go_enter Tryz.func90,Tryz.ntmps90
  go_wp2_with (at_builtin;refine mI rfl _ _ 22 3 rfl nK rfl rfl (ORow.of_own (n:=0) (cs:=[]) (G:=Foot.one w.heap.size) (aAB w 3) (by omega) (fun k hk=>by cases hk;rfl) (fun k hk=>by cases hk;simp)) (HS.out.below ((Below.refl _ _).alloc (aC _) _)).1 (oQ _) (by rw [bH];exact HS.out.1.big) (by rw [bH];have:=HS.out.1.big;omega) ?_;intro v2 w2 G2 r1 r2 r3;have R1:=h! r1;have R2:=h! r2;have R3:=h! r3;clear r1 r2 r3)
  go_ret
  have h1:=R1.out
  rw [bH,eD] at h1
  refine ⟨v2,G2,rfl,⟨h1,HS.out.2⟩,fun k hk => ?_,((Below.refl _ _).alloc (aC _) _).trans (R3.out.below (by simp) fun k _ hk=>by cases hk;exact aC _)⟩
  rcases R2.out k hk with h2 | h2
  ·cases h2;exact aC _
  simp at h2;omega
theorem pX {α : Type} (l:List α) (k:Nat) (x : α) (h:l[k]? = some x):l.take (k+1)=l.take k ++ [x]:=by
 rw [cW,h];rfl
structure Holds (bs:List Nat) (base:Nat) (W:World) (S:Foot) (K:World -> Prop):Prop where
 now:K W
 keep:∀ W1 W2,K W1 -> (∀ k,S k -> W2.heap[k]? = W1.heap[k]?) -> K W2
 lt:∀ k,S k -> k < W.heap.size
 base:∀ k,S k -> base <= k
 free:∀ k,S k -> k ∉ bs
theorem Holds.off {bs:List Nat} {base:Nat} {W W' : World} {S D:Foot} {K:World -> Prop} (h:Holds bs base W S K) (ho:Off D W W') (hn:S.off D):Holds bs base W' S K :=
 ⟨h.keep _ _ h.now fun k hk=>ho.block k (h.lt k hk) (hn k hk),h.keep,fun k hk=>aR (h.lt k hk) ho.size,h.base,h.free⟩
theorem Holds.later {bs:List Nat} {base:Nat} {W W' : World} {S:Foot} {K:World -> Prop} (h:Holds bs base W S K) (hb:Below W.heap.size W W'):Holds bs base W' S K :=
 h.off (.of_below hb Foot.none) fun k _ hk=>hk
theorem Holds.alloc {bs:List Nat} {base:Nat} {W:World} {S:Foot} {K:World -> Prop} (h:Holds bs base W S K) (o:Obj):Holds bs base (W.alloc o) S K:=h.later ((Below.refl _ _).alloc (aC _) o)
theorem Holds.other {bs:List Nat} {base:Nat} {W:World} {S:Foot} {K:World -> Prop} (h:Holds bs base W S K) {p:Addr} (v:Value) (hp:p.block ∈ bs):Holds bs base (W.setCell p v) S K :=
 h.off (Off.set W p v) fun k hk he=>h.free k hk (by cases he;exact hp)
theorem Holds.more {bs:List Nat} {base:Nat} {W:World} {S:Foot} {K:World -> Prop} (h:Holds bs base W S K) {b:Nat} (hb:W.heap.size <= b):Holds (b :: bs) base W S K :=
 ⟨h.now,h.keep,h.lt,h.base,fun k hk hm=>by
  rcases bR.1 hm with rfl | hm
  ·have:=h.lt _ hk;omega
  exact h.free k hk hm⟩
theorem Holds.less {bs bs' : List Nat} {base:Nat} {W:World} {S:Foot} {K:World -> Prop} (h:Holds bs base W S K) (hb:∀ b ∈ bs',b ∈ bs):Holds bs' base W S K :=
 ⟨h.now,h.keep,h.lt,h.base,fun k hk hm=>h.free k hk (hb k hm)⟩
theorem Holds.low {bs bs' : List Nat} {base:Nat} {W:World} {S:Foot} {K:World -> Prop} (h:Holds bs base W S K) (hb:∀ b ∈ bs',b < base):Holds bs' base W S K :=
 ⟨h.now,h.keep,h.lt,h.base,fun k hk hm=>by have:=hb k hm;have:=h.base k hk;omega⟩
theorem Holds.from {bs:List Nat} {base base' : Nat} {W:World} {S:Foot} {K:World -> Prop} (h:Holds bs base W S K) (hb:base' <= base):Holds bs base' W S K:=⟨h.now,h.keep,h.lt,fun k hk=>bA hb (h.base k hk),h.free⟩
theorem gF {base:Nat} {W:World} {S:Foot} {v:Value} {xs:List Int} (h:eR W S v xs) (hf:kC base S):Holds [] base W S (fun W=>eR W S v xs) :=
 ⟨h,fun _ _ h hk=>h.keep hk,h.lt,hf,fun _ _ hm=>by cases hm⟩
theorem kM {α : Type} {R:World -> Foot -> List Value -> α -> Prop} (hR:Nice R) {base:Nat} {W:World} {S:Foot} {cs:List Value} {x : α} (h:R W S cs x) (hf:kC base S):Holds [] base W S (fun W=>R W S cs x) :=
 ⟨h,fun _ _ h hk=>hR.keep h hk,hR.lt h,hf,fun _ _ hm=>by cases hm⟩
theorem jE {α : Type} {R:World -> Foot -> List Value -> α -> Prop} (hR:Nice R) {base:Nat} {e:TypeId} {size:Nat} {W:World} {S:Foot} {v:Value} {xs:List α} (h:OSl R e size W S v xs) (hf:kC base S):Holds [] base W S (fun W=>OSl R e size W S v xs) :=
 ⟨h,fun _ _ h hk=>h.keep hR hk,h.lt,hf,fun _ _ hm=>by cases hm⟩
theorem kN {base:Nat} {W:World} {S:Foot} {v:Value} {f:FuncD} (h:OFunc W S v f) (hf:kC base S):Holds [] base W S (fun W=>OFunc W S v f) :=
 ⟨h,fun _ _ h hk=>h.keep hk,h.lt,hf,fun _ _ hm=>by cases hm⟩
theorem qY {W:World} {B n size:Nat} {ds:List Value} (h:Box W B ds.toArray) (hs:ds.length=n * size) (hn:n <= 17592186044416):Row W (.slice (some ⟨B,0,none⟩) n n) n size ds:=by
 have:=Row.of_box (n:=n) (size:=size) h (by simpa using hs) hn
 simpa using this
theorem sL {α : Type} {R:World -> Foot -> List Value -> α -> Prop} (hR:Nice R) {e:TypeId} {size:Nat} {w w' : World} {bs:List Nat} {base:Nat} {S Fn G' : Foot} {v v' : Value} {xs:List α} {y : α} {cs ds:List Value} {G:Foot} {F:Nat -> Foot} {n:Nat} (hn:xs.length=n)
  (H:Holds bs base w S (fun W=>OSl R e size W S v xs)) (hp:OParts R e size w S v xs cs G F) (hel:R w Fn ds y) (hF:Fn.off S) (hFb:kC base Fn) (hbs:∀ b ∈ bs,b < base) (hbase:base <= w.heap.size)
  (ho:Off G w w') (hrow:ORow w' G' e size v' (xs.length+1) (cs ++ ds)) (hG:∀ k,G' k -> G k \/ w.heap.size <= k) :
  ∃ S',Holds bs base w' S' (fun W=>OSl R e size W S' v' (xs ++ [y]))/\(∀ k,S' k -> S k \/ Fn k \/ w.heap.size <= k)/\Off S w w' /\ ∃ g cap,v' = .slice (some ⟨g,0,none⟩) (n+1) cap:=by
 have h1:=hp.snoc hR hel hF ho hrow hG
 have h2:∀ k,(S k \/ Fn k \/ G' k) -> S k \/ Fn k \/ w.heap.size <= k:=fun k hk=>by
  rcases hk with hk | hk | hk
  ·exact .inl hk
  ·exact .inr (.inl hk)
  rcases hG k hk with hk | hk
  ·exact .inl (hp.inG k hk)
  exact .inr (.inr hk)
 refine ⟨_,⟨⟨_,_,_,h1⟩,fun _ _ h hk=>h.keep hR hk,h1.lt,fun k hk => ?_,fun k hk hm => ?_⟩,h2,ho.mono fun k _ hk=>hp.inG k hk, ?_⟩
 ·rcases h2 k hk with hk | hk | hk
  ·exact H.base k hk
  ·exact hFb k hk
  omega
 ·rcases h2 k hk with hk | hk | hk
  ·exact H.free k hk hm
  ·have:=hFb k hk;have:=hbs k hm;omega
  have:=hbs k hm;omega
 ·obtain ⟨g,cap,hv, -⟩:=hrow.addr (by omega)
  exact ⟨g,cap,by rw [<-hn];exact hv⟩
theorem lT {α : Type} {R:World -> Foot -> List Value -> α -> Prop} (hR:Nice R) {P:Program} {w:World} {ops:Array Oper} {rest:List Oper} {o:Oper} {a:Act} {Q:Exit -> Act -> World -> Prop} (hgd:o.guard=none) (s x:Operand) (t e:TypeId)
  (ho:o.op = .call { callee:=.builtin .append,args:=#[s,x],argTypes:=#[t,t] }) {z:Value} {size bytes:Nat} (he:Elem P t e z size bytes)
  {v:Value} {B:Nat} {ds:List Value} (hs:a.eval s=v) (hx:a.eval x = .slice (some ⟨B,0,none⟩) 1 1) {bs:List Nat} {base:Nat} {S Fn:Foot} {xs:List α} {y : α} {n:Nat} (hn:xs.length=n)
  (H:Holds bs base w S (fun W=>OSl R e size W S v xs)) (hB:Box w B ds.toArray) (hds:ds.length=size) (hel:R w Fn ds y) (hF:Fn.off S) (hFb:kC base Fn) (hbs:∀ b ∈ bs,b < base) (hbase:base <= w.heap.size)
  (h1:∀ u ∈ ds,u.oneCell' = true) (hlen:n+1 <= 17592186044416) (hbytes:(n+1) * bytes <= 140737488355328)
  (hK:∀ v' w' S',Holds bs base w' S' (fun W=>OSl R e size W S' v' (xs ++ [y])) -> (∀ k,S' k -> S k \/ Fn k \/ w.heap.size <= k) -> Off S w w' -> (∃ g cap,v' = .slice (some ⟨g,0,none⟩) (n+1) cap) -> wpList P ops Q rest (a.put o.dst v') w'):wpList P ops Q (o :: rest) a w:=by
 obtain ⟨cs,G,F,hp⟩:=H.now
 refine mI hgd s x t e ho he hs hx hp.row (qY (n:=1) hB (by omega) (by omega)) h1 (by omega) (by rw [hn];exact hbytes) fun v' w' G' r1 r2 r3 => ?_
 obtain ⟨S',k1,k2,k3,k4⟩:=sL hR hn H hp hel hF hFb hbs hbase r3 r1 r2
 exact hK v' w' S' k1 k2 k3 k4
theorem xV {α : Type} {R:World -> Foot -> List Value -> α -> Prop} (hR:Nice R) {P:Program} {w:World} {o:Oper} {a:Act} (s x:Operand) (t e:TypeId)
  (ho:o.op = .call { callee:=.builtin .append,args:=#[s,x],argTypes:=#[t,t] }) {z:Value} {size bytes:Nat} (he:Elem P t e z size bytes)
  {v:Value} {B:Nat} {ds:List Value} (hs:a.eval s=v) (hx:a.eval x = .slice (some ⟨B,0,none⟩) 1 1) {bs:List Nat} {base:Nat} {S Fn:Foot} {xs:List α} {y : α} {n:Nat} (hn:xs.length=n)
  (H:Holds bs base w S (fun W=>OSl R e size W S v xs)) (hB:Box w B ds.toArray) (hds:ds.length=size) (hel:R w Fn ds y) (hF:Fn.off S) (hFb:kC base Fn) (hbs:∀ b ∈ bs,b < base) (hbase:base <= w.heap.size)
  (h1:∀ u ∈ ds,u.oneCell' = true) (hlen:n+1 <= 17592186044416) (hbytes:(n+1) * bytes <= 140737488355328) :
  ∃ v' w' S',(execOp a.eval o).run P w = .ok (.value v') w' /\ Holds bs base w' S' (fun W=>OSl R e size W S' v' (xs ++ [y]))/\(∀ k,S' k -> S k \/ Fn k \/ w.heap.size <= k)/\Off S w w' /\ (∃ g cap,v' = .slice (some ⟨g,0,none⟩) (n+1) cap):=by
 obtain ⟨cs,G,F,hp⟩:=H.now
 obtain ⟨v',w',G',aa,r1,r2,r3, -⟩:=sJ s x t e ho he hs hx hp.row (qY (n:=1) hB (by omega) (by omega)) h1 (by omega) (by rw [hn];exact hbytes)
 obtain ⟨S',k1,k2,k3,k4⟩:=sL hR hn H hp hel hF hFb hbs hbase r3 r1 r2
 exact ⟨v',w',S',aa,k1,k2,k3,k4⟩
theorem pre0 {ops:Array Oper} {I:World -> Prop} {i:Nat} {w w' : World} (h:Four.Pre ops (fun _=>Foot.none) I i w w'):Below w.heap.size w w':=h.1.below (aC _) fun _ _ ⟨_,_,_,h⟩=>h.elim
theorem aGJ:Elem Tryz.prog 58 78 (.agg #[.int .i64 0,.int .i64 0,.slice none 0 0,.slice none 0 0]) 4 64:=mG Tryz.underlying58 (by kernel_rfl) rfl (by omega)
theorem aEY:Elem Tryz.prog 59 82 (.agg #[.int .i64 0,.int .i64 0,.slice none 0 0,.int .i64 0]) 4 48:=mG Tryz.underlying59 (by kernel_rfl) rfl (by omega)
theorem tX:Elem Tryz.prog 23 63 (.agg #[.slice none 0 0,.slice none 0 0,.int .i64 0,.int .i64 0,.slice none 0 0,.int .i64 0]) 6 96:=mG Tryz.underlying23 (by kernel_rfl) rfl (by omega)
end Go.Proofs.YtagabiidbbhhmaaGreat
