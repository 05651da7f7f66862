/- Part 27. -/
import Derived.Lib.SliceRun
import Derived.Test.YtcmflfkpeodicaaGreatIRA26
namespace Go.Proofs.YtcmflfkpeodicaaGreat
set_option linter.all false
open Go.RowKit
theorem vP {P:Program} {w:World} {t ty e:TypeId} {z:Value} {size bytes:Nat} (he:Elem P t e z size bytes) {v xv:Value} {n m:Nat} {cs news:List Value} {G:Foot} (h:ORow w G e size v n cs) (hr:Row w xv m size news)
  (h1:∀ u ∈ news,u.oneCell' = true) (hbig:n+m <= 17592186044416) (hbytes:(n+m) * bytes <= 140737488355328) :
  ∃ v' w' G',(Builtin.append_ #[t,t] ty #[v,xv]).run P w = .ok v' w' /\ ORow w' G' e size v' (n+m) (cs ++ news)/\(∀ k,G' k -> G k \/ w.heap.size <= k)/\Off G w w' /\
   (∀ g j,v.ownBlock=some g -> j < n * size -> w'.cell? ⟨g,j,none⟩=w.cell? ⟨g,j,none⟩):=by
 have hbl:n+m <= maxLen:=by unfold maxLen;omega
 have fin:∀ (base:Nat) (v' : Value) (w' : World),w'.ownsRow base e size v' (n+m) (cs ++ news) -> (∀ k,v'.ownBlock=some k -> G k \/ w.heap.size <= k) -> ∃ G',ORow w' G' e size v' (n+m) (cs ++ news) /\ ∀ k,G' k -> G k \/ w.heap.size <= k:=fun base v' w' r1 r2 =>
  ⟨fun k=>v'.ownBlock=some k,ORow.of_own r1 hbig (fun k hk=>hk) (fun k hk=>(r1.lt k hk).2),r2⟩
 have hlen:=h.len
 rcases h.form with ⟨rfl,a,rfl⟩ | ⟨g,cap,cur,rfl,hg,hh,k1,k2,k3,k4⟩
 ·have hcs:cs=[]:=List.eq_nil_of_length_eq_zero (by simpa using hlen)
  subst hcs
  have hno:∀ g j,(Value.slice a 0 0).ownBlock=some g -> j < 0 * size -> w.cell? ⟨g,j,none⟩=w.cell? ⟨g,j,none⟩:=fun _ _ _ _=>rfl
  by_cases hm:m=0
  ·subst hm
   have hn:news=[]:=List.eq_nil_of_length_eq_zero (by simpa using hr.len)
   subst hn
   refine ⟨.slice a 0 0,w,Foot.none, ?_,ORow.nil a,fun k hk=>hk.elim,Off.refl _ _,fun g j _ hj=>by simp at hj⟩
   obtain ⟨ht,⟨i,hi,hz,hsz,hby⟩,hzc,hp⟩:=he
   obtain ⟨_,_,ad,cap,rfl,_,_,_,_⟩:=hr
   cases a <;> cases ad <;> simp [Builtin.append_,run_underlying ht,sizeOf,typeInfo,hi,Builtin.lenOf,Builtin.firstCells,loadCells,loadCellsFrom,storeCells]
  cases a with
  | none =>
   obtain ⟨v',w',hrun,r1,r2,r3, -, -⟩:=iV (ty:=ty) he w.heap.size (World.ownsRow_nil w w.heap.size e size) hr h1 hbl hbytes (aF _)
   obtain ⟨G',g1,g2⟩:=fin _ v' w' r1 (fun k hk=>.inr (r1.lt k hk).1)
   exact ⟨v',w',G',hrun,g1,g2,Off.grown r2 (fun k hk=>by cases hk),fun g j _ hj=>by simp at hj⟩
  | some b =>
   obtain ⟨ht,⟨i,hi,hz,hsz,hby⟩,hzc,hp⟩:=he
   obtain ⟨hl,_,ad,cap,rfl,_,_,hnone,hc⟩:=hr
   cases ad with
   | none=>exact absurd (hnone rfl).1 hm
   | some ad =>
    obtain ⟨v',w',hrun,r1,r2⟩:=run_append_arg_grows (P:=P) w t ty e i z size bytes ht hi hz hsz hby hzc hp b 0 0 [] (by simp) (fun j u hj=>by simp at hj) ad m cap news hl (fun j u hj=>hc ad rfl j u hj) (by omega) hbl hbytes
    obtain ⟨G',g1,g2⟩:=fin _ v' w' r1 (fun k hk=>.inr (r1.lt k hk).1)
    exact ⟨v',w',G',hrun,g1,g2,Off.grown r2 (fun k hk=>by cases hk),fun g j _ hj=>by simp at hj⟩
 ·have hown:w.ownsRow 0 e size (.slice (some ⟨g,0,none⟩) n cap) n cs:=⟨hlen,.inr ⟨g,cap,cur,rfl,aP _,hh,k1,k2,k3,k4⟩⟩
  obtain ⟨v',w',hrun,r1,r2,r3,r4, -⟩:=iV (ty:=ty) he 0 hown hr h1 hbl hbytes (aP _)
  obtain ⟨G',g1,g2⟩:=fin _ v' w' r1 (fun k hk=>by
   rcases r3 with e3 | e3
   ·rw [e3] at hk;cases hk;exact .inl hg
   rw [e3] at hk;cases hk;exact .inr (aF _))
  exact ⟨v',w',G',hrun,g1,g2,Off.grown r2 (fun k hk=>by cases hk;exact hg),r4⟩
theorem mL {P:Program} {w:World} {ops:Array Oper} {rest:List Oper} {o:Oper} {a:Act} {Q:Exit -> Act -> World -> Prop} (hgd:o.guard=none) (s x:Operand) (t e:TypeId)
  (ho:o.op = .call { callee:=.builtin .append,args:=#[s,x],argTypes:=#[t,t] }) {z:Value} {size bytes:Nat} (he:Elem P t e z size bytes)
  {v xv:Value} {n m:Nat} {cs news:List Value} {G:Foot} (hs:a.eval s=v) (hx:a.eval x=xv) (h:ORow w G e size v n cs) (hr:Row w xv m size news)
  (h1:∀ u ∈ news,u.oneCell' = true) (hbig:n+m <= 17592186044416) (hbytes:(n+m) * bytes <= 140737488355328)
  (hK:∀ v' w' G',ORow w' G' e size v' (n+m) (cs ++ news) -> (∀ k,G' k -> G k \/ w.heap.size <= k) -> Off G w w' -> wpList P ops Q rest (a.put o.dst v') w'):wpList P ops Q (o :: rest) a w:=by
 obtain ⟨v',w',G',hrun,r1,r2,r3, -⟩:=vP (ty:=o.type) he h hr h1 hbig hbytes
 refine wpList_plain hgd fun K hK' => ?_
 unfold Oper.wp execOp
 simp only [ho,resolve,invoke,builtin,Sem.run_bind,Sem.run_pure,Result.andThen_ok,List.map_toArray,cR,List.map_nil,hs,hx,hrun]
 exact hK' _ _ (hK v' w' G' r1 r2 r3)
theorem sQ {P:Program} {w:World} {o:Oper} {a:Act} (s x:Operand) (t e:TypeId)
  (ho:o.op = .call { callee:=.builtin .append,args:=#[s,x],argTypes:=#[t,t] }) {z:Value} {size bytes:Nat} (he:Elem P t e z size bytes)
  {v xv:Value} {n m:Nat} {cs news:List Value} {G:Foot} (hs:a.eval s=v) (hx:a.eval x=xv) (h:ORow w G e size v n cs) (hr:Row w xv m size news)
  (h1:∀ u ∈ news,u.oneCell' = true) (hbig:n+m <= 17592186044416) (hbytes:(n+m) * bytes <= 140737488355328) :
  ∃ v' w' G',(execOp a.eval o).run P w = .ok (.value v') w' /\ ORow w' G' e size v' (n+m) (cs ++ news)/\(∀ k,G' k -> G k \/ w.heap.size <= k)/\Off G w w' /\
   (∀ g j,v.ownBlock=some g -> j < n * size -> w'.cell? ⟨g,j,none⟩=w.cell? ⟨g,j,none⟩):=by
 obtain ⟨v',w',G',hrun,r⟩:=vP (ty:=o.type) he h hr h1 hbig hbytes
 refine ⟨v',w',G', ?_,r⟩
 unfold execOp
 simp only [ho,resolve,invoke,builtin,Sem.run_bind,Sem.run_pure,Result.andThen_ok,List.map_toArray,cR,List.map_nil,hs,hx,hrun]
def jY (base:Nat) (S:Foot):Prop := ∀ k,S k -> base <= k
theorem jY.off {base:Nat} {S D:Foot} (h:jY base S) (hD:∀ k,D k -> k < base):S.off D:=fun k hs hd=>by have:=h k hs;have:=hD k hd;omega
def aDD (xs:List Int) (w:World) (e:Ending) (w' : World):Prop := ∃ u S,e = .returned u/\eM w' S u xs/\jY w.heap.size S/\Below w.heap.size w w'
set_option maxHeartbeats 1600000 in
theorem aHR {w:World} {v:Value} {xs:List Int} (hs:Ints w v xs):Calls Tryz.prog 79 #[v] w (aDD xs w):=by
 have q4:∀ (w:World) (a:Option Addr) (n c n' c' : Nat),(binOp .eql 22 (.slice a n c) (.slice none n' c')).run Tryz.prog w = .ok (.bool a.isNone) w:=fun w a n c n' c'=>Lib.run_eql_slice_nil w _ _ a n c n' c' Tryz.underlying22
 obtain ⟨a,c,b,o,rfl, -, -,ha, -⟩:=hs.parts
 have HS:=h! hs
 obtain ⟨n,hn⟩ : ∃ n,n=xs.length:=⟨_,rfl⟩
 have HN:=h! hn
 rw [<-hn] at HS ha ⊢
 have HA:=h! ha
 clear hs ha hn
 cases a with
 | none =>
  have hx:xs=[]:=by
   have h:=HA.out
   refine cJ ?_
   rw [<-HN.out]
   exact Classical.byContradiction fun h2=>by have:=(h (by omega)).1;cases this
  have HX:=h! hx
  clear hx
  go_enter Tryz.func79,Tryz.ntmps79
  go_wp2
  go_ret
  exact ⟨_,Foot.none,rfl,by rw [HX.out];exact eM.nil none,fun k hk=>hk.elim,Below.refl _ _⟩
 | some ad =>
  go_enter Tryz.func79,Tryz.ntmps79
  go_wp2_with (at_builtin;refine mL rfl _ _ 22 3 rfl mA rfl rfl (ORow.of_own (n:=0) (cs:=[]) (G:=Foot.one w.heap.size) (aBG w 3) (by omega) (fun k hk=>by cases hk;rfl) (fun k hk=>by cases hk;simp)) (HS.out.below ((Below.refl _ _).alloc (aF _) _)).1 (pJ _) (by rw [bH];exact HS.out.1.big) (by rw [bH];have:=HS.out.1.big;omega) ?_;intro v2 w2 G2 r1 r2 r3;have R1:=h! r1;have R2:=h! r2;have R3:=h! r3;clear r1 r2 r3)
  go_ret
  have h1:=R1.out
  rw [bH,dW] at h1
  refine ⟨v2,G2,rfl,⟨h1,HS.out.2⟩,fun k hk => ?_,((Below.refl _ _).alloc (aF _) _).trans (R3.out.below (by simp) fun k _ hk=>by cases hk;exact aF _)⟩
  rcases R2.out k hk with h2 | h2
  ·cases h2;exact aF _
  simp at h2;omega
structure Holds (bs:List Nat) (base:Nat) (W:World) (S:Foot) (K:World -> Prop):Prop where
 now:K W
 keep:∀ W1 W2,K W1 -> (∀ k,S k -> W2.heap[k]? = W1.heap[k]?) -> K W2
 lt:∀ k,S k -> k < W.heap.size
 base:∀ k,S k -> base <= k
 free:∀ k,S k -> k ∉ bs
theorem Holds.off {bs:List Nat} {base:Nat} {W W' : World} {S D:Foot} {K:World -> Prop} (h:Holds bs base W S K) (ho:Off D W W') (hn:S.off D):Holds bs base W' S K :=
 ⟨h.keep _ _ h.now fun k hk=>ho.block k (h.lt k hk) (hn k hk),h.keep,fun k hk=>aL (h.lt k hk) ho.size,h.base,h.free⟩
theorem Holds.later {bs:List Nat} {base:Nat} {W W' : World} {S:Foot} {K:World -> Prop} (h:Holds bs base W S K) (hb:Below W.heap.size W W'):Holds bs base W' S K :=
 h.off (.of_below hb Foot.none) fun k _ hk=>hk
theorem Holds.alloc {bs:List Nat} {base:Nat} {W:World} {S:Foot} {K:World -> Prop} (h:Holds bs base W S K) (o:Obj):Holds bs base (W.alloc o) S K:=h.later ((Below.refl _ _).alloc (aF _) o)
theorem Holds.other {bs:List Nat} {base:Nat} {W:World} {S:Foot} {K:World -> Prop} (h:Holds bs base W S K) {p:Addr} (v:Value) (hp:p.block ∈ bs):Holds bs base (W.setCell p v) S K :=
 h.off (Off.set W p v) fun k hk he=>h.free k hk (by cases he;exact hp)
theorem Holds.more {bs:List Nat} {base:Nat} {W:World} {S:Foot} {K:World -> Prop} (h:Holds bs base W S K) {b:Nat} (hb:W.heap.size <= b):Holds (b :: bs) base W S K :=
 ⟨h.now,h.keep,h.lt,h.base,fun k hk hm=>by
  rcases bM.1 hm with rfl | hm
  ·have:=h.lt _ hk;omega
  exact h.free k hk hm⟩
theorem Holds.less {bs bs' : List Nat} {base:Nat} {W:World} {S:Foot} {K:World -> Prop} (h:Holds bs base W S K) (hb:∀ b ∈ bs',b ∈ bs):Holds bs' base W S K :=
 ⟨h.now,h.keep,h.lt,h.base,fun k hk hm=>h.free k hk (hb k hm)⟩
theorem Holds.from {bs:List Nat} {base base' : Nat} {W:World} {S:Foot} {K:World -> Prop} (h:Holds bs base W S K) (hb:base' <= base):Holds bs base' W S K:=⟨h.now,h.keep,h.lt,fun k hk=>aJ hb (h.base k hk),h.free⟩
theorem jF {base:Nat} {W:World} {S:Foot} {v:Value} {xs:List Int} (h:eM W S v xs) (hf:jY base S):Holds [] base W S (fun W=>eM W S v xs) :=
 ⟨h,fun _ _ h hk=>h.keep hk,h.lt,hf,fun _ _ hm=>by cases hm⟩
theorem rD {α : Type} {R:World -> Foot -> List Value -> α -> Prop} (hR:Nice R) {base:Nat} {e:TypeId} {size:Nat} {W:World} {S:Foot} {v:Value} {xs:List α} (h:OSl R e size W S v xs) (hf:jY base S):Holds [] base W S (fun W=>OSl R e size W S v xs) :=
 ⟨h,fun _ _ h hk=>h.keep hR hk,h.lt,hf,fun _ _ hm=>by cases hm⟩
theorem rE {W:World} {B n size:Nat} {ds:List Value} (h:Box W B ds.toArray) (hs:ds.length=n * size) (hn:n <= 17592186044416):Row W (.slice (some ⟨B,0,none⟩) n n) n size ds:=by
 have:=Row.of_box (n:=n) (size:=size) h (by simpa using hs) hn
 simpa using this
theorem sR {α : Type} {R:World -> Foot -> List Value -> α -> Prop} (hR:Nice R) {e:TypeId} {size:Nat} {w w' : World} {bs:List Nat} {base:Nat} {S Fn G' : Foot} {v v' : Value} {xs:List α} {y : α} {cs ds:List Value} {G:Foot} {F:Nat -> Foot} {n:Nat} (hn:xs.length=n)
  (H:Holds bs base w S (fun W=>OSl R e size W S v xs)) (hp:OParts R e size w S v xs cs G F) (hel:R w Fn ds y) (hF:Fn.off S) (hFb:jY base Fn) (hbs:∀ b ∈ bs,b < base) (hbase:base <= w.heap.size)
  (ho:Off G w w') (hrow:ORow w' G' e size v' (xs.length+1) (cs ++ ds)) (hG:∀ k,G' k -> G k \/ w.heap.size <= k) :
  ∃ S',Holds bs base w' S' (fun W=>OSl R e size W S' v' (xs ++ [y]))/\(∀ k,S' k -> S k \/ Fn k \/ w.heap.size <= k)/\Off S w w' /\ ∃ g cap,v' = .slice (some ⟨g,0,none⟩) (n+1) cap:=by
 have h1:=hp.snoc hR hel hF ho hrow hG
 have h2:∀ k,(S k \/ Fn k \/ G' k) -> S k \/ Fn k \/ w.heap.size <= k:=fun k hk=>by
  rcases hk with hk | hk | hk
  ·exact .inl hk
  ·exact .inr (.inl hk)
  rcases hG k hk with hk | hk
  ·exact .inl (hp.inG k hk)
  exact .inr (.inr hk)
 refine ⟨_,⟨⟨_,_,_,h1⟩,fun _ _ h hk=>h.keep hR hk,h1.lt,fun k hk => ?_,fun k hk hm => ?_⟩,h2,ho.mono fun k _ hk=>hp.inG k hk, ?_⟩
 ·rcases h2 k hk with hk | hk | hk
  ·exact H.base k hk
  ·exact hFb k hk
  omega
 ·rcases h2 k hk with hk | hk | hk
  ·exact H.free k hk hm
  ·have:=hFb k hk;have:=hbs k hm;omega
  have:=hbs k hm;omega
 ·obtain ⟨g,cap,hv, -⟩:=hrow.addr (by omega)
  exact ⟨g,cap,by rw [<-hn];exact hv⟩
theorem iJ {α : Type} {R:World -> Foot -> List Value -> α -> Prop} (hR:Nice R) {P:Program} {w:World} {ops:Array Oper} {rest:List Oper} {o:Oper} {a:Act} {Q:Exit -> Act -> World -> Prop} (hgd:o.guard=none) (s x:Operand) (t e:TypeId)
  (ho:o.op = .call { callee:=.builtin .append,args:=#[s,x],argTypes:=#[t,t] }) {z:Value} {size bytes:Nat} (he:Elem P t e z size bytes)
  {v:Value} {B:Nat} {ds:List Value} (hs:a.eval s=v) (hx:a.eval x = .slice (some ⟨B,0,none⟩) 1 1) {bs:List Nat} {base:Nat} {S Fn:Foot} {xs:List α} {y : α} {n:Nat} (hn:xs.length=n)
  (H:Holds bs base w S (fun W=>OSl R e size W S v xs)) (hB:Box w B ds.toArray) (hds:ds.length=size) (hel:R w Fn ds y) (hF:Fn.off S) (hFb:jY base Fn) (hbs:∀ b ∈ bs,b < base) (hbase:base <= w.heap.size)
  (h1:∀ u ∈ ds,u.oneCell' = true) (hlen:n+1 <= 17592186044416) (hbytes:(n+1) * bytes <= 140737488355328)
  (hK:∀ v' w' S',Holds bs base w' S' (fun W=>OSl R e size W S' v' (xs ++ [y])) -> (∀ k,S' k -> S k \/ Fn k \/ w.heap.size <= k) -> Off S w w' -> (∃ g cap,v' = .slice (some ⟨g,0,none⟩) (n+1) cap) -> wpList P ops Q rest (a.put o.dst v') w'):wpList P ops Q (o :: rest) a w:=by
 obtain ⟨cs,G,F,hp⟩:=H.now
 refine mL hgd s x t e ho he hs hx hp.row (rE (n:=1) hB (by omega) (by omega)) h1 (by omega) (by rw [hn];exact hbytes) fun v' w' G' r1 r2 r3 => ?_
 obtain ⟨S',k1,k2,k3,k4⟩:=sR hR hn H hp hel hF hFb hbs hbase r3 r1 r2
 exact hK v' w' S' k1 k2 k3 k4
theorem xY {α : Type} {R:World -> Foot -> List Value -> α -> Prop} (hR:Nice R) {P:Program} {w:World} {o:Oper} {a:Act} (s x:Operand) (t e:TypeId)
  (ho:o.op = .call { callee:=.builtin .append,args:=#[s,x],argTypes:=#[t,t] }) {z:Value} {size bytes:Nat} (he:Elem P t e z size bytes)
  {v:Value} {B:Nat} {ds:List Value} (hs:a.eval s=v) (hx:a.eval x = .slice (some ⟨B,0,none⟩) 1 1) {bs:List Nat} {base:Nat} {S Fn:Foot} {xs:List α} {y : α} {n:Nat} (hn:xs.length=n)
  (H:Holds bs base w S (fun W=>OSl R e size W S v xs)) (hB:Box w B ds.toArray) (hds:ds.length=size) (hel:R w Fn ds y) (hF:Fn.off S) (hFb:jY base Fn) (hbs:∀ b ∈ bs,b < base) (hbase:base <= w.heap.size)
  (h1:∀ u ∈ ds,u.oneCell' = true) (hlen:n+1 <= 17592186044416) (hbytes:(n+1) * bytes <= 140737488355328) :
  ∃ v' w' S',(execOp a.eval o).run P w = .ok (.value v') w' /\ Holds bs base w' S' (fun W=>OSl R e size W S' v' (xs ++ [y]))/\(∀ k,S' k -> S k \/ Fn k \/ w.heap.size <= k)/\Off S w w' /\ (∃ g cap,v' = .slice (some ⟨g,0,none⟩) (n+1) cap):=by
 obtain ⟨cs,G,F,hp⟩:=H.now
 obtain ⟨v',w',G',hrun,r1,r2,r3, -⟩:=sQ s x t e ho he hs hx hp.row (rE (n:=1) hB (by omega) (by omega)) h1 (by omega) (by rw [hn];exact hbytes)
 obtain ⟨S',k1,k2,k3,k4⟩:=sR hR hn H hp hel hF hFb hbs hbase r3 r1 r2
 exact ⟨v',w',S',hrun,k1,k2,k3,k4⟩
theorem pre0 {ops:Array Oper} {I:World -> Prop} {i:Nat} {w w' : World} (h:Four.Pre ops (fun _=>Foot.none) I i w w'):Below w.heap.size w w':=h.1.below (aF _) fun _ _ ⟨_,_,_,h⟩=>h.elim
theorem eM.addr {W:World} {S:Foot} {v:Value} {xs:List Int} (h:eM W S v xs) {i:Nat} {x:Int} (hi:xs[i]? = some x) :
  ∃ g cap,v = .slice (some ⟨g,0,none⟩) xs.length cap/\S g/\g < W.heap.size/\W.cell? ⟨g,i,none⟩=some (.int .i64 x)/\(∀ o,W.frozen? ⟨g,o,none⟩=false) /\ ∀ y,In64 y -> eM (W.setCell ⟨g,i,none⟩ (.int .i64 y)) S v (xs.set i y):=by
 have hil:=(aE.1 hi).1
 obtain ⟨g,cap,hv,hG, -, -,hgl,hcell,hfr⟩:=h.1.addr (by omega)
 exact ⟨g,cap,hv,hG,hgl,hcell i _ (by rw [aU,hi];rfl),hfr,fun y hy=>h.set hv hil hy⟩
def vQ (b n:Int) (still:Bool) (p:PhiD):PhiD :=
 if b ∈ p.src then
  if still then { p with src:=p.src ++ [n],vals:=p.vals ++ [p.vals.getD (p.src.idxOf b) 0] } else { p with src:=p.src.set (p.src.idxOf b) n }
 else p
theorem aFP {nb:Nat} {b:Int} {still:Bool} {p:PhiD} (h:iR nb p=true):iR (nb+1) (vQ b nb still p)=true:=by
 unfold iR at h ⊢
 simp only [aN,aZ,decide_eq_true_eq,beq_iff_eq] at h
 obtain ⟨⟨⟨h1,h2⟩,h3⟩,h4⟩:=h
 have hm:∀ x ∈ p.src,numB (nb+1) x=true:=fun x hx=>by
  have:=h3 x hx
  unfold numB at this ⊢
  simp at this ⊢;omega
 have hno:(nb:Int) ∉ p.src:=fun hx=>by
  have:=h3 _ hx
  unfold numB at this
  simp at this
 have hnb:numB (nb+1) (nb:Int)=true:=by unfold numB;simp;omega
 simp only [aN,aZ,decide_eq_true_eq,beq_iff_eq]
 unfold vQ
 split
 ·rename_i hb
  split
  ·refine ⟨⟨⟨h1,by simp [h2]⟩,fun x hx => ?_⟩, ?_⟩
   ·rcases aO.1 hx with hx | hx
    ·exact hm x hx
    rw [cZ.1 hx];exact hnb
   rw [cE]
   exact ⟨h4,by simp,fun a ha c hc e=>by rw [cZ] at hc;exact hno (by rw [<-hc, <-e];exact ha)⟩
  refine ⟨⟨⟨h1,by simp [h2]⟩,fun x hx => ?_⟩, ?_⟩
  ·rcases List.mem_or_eq_of_mem_set hx with hx | hx
   ·exact hm x hx
   rw [hx];exact hnb
  rw [dZ,eE]
  intro i j hi hj hij
  rw [List.getElem_set,List.getElem_set]
  have hi' : i < p.src.length:=by simpa using hi
  have hj' : j < p.src.length:=by simpa using hj
  split
  ·split
   ·omega
   intro e;exact hno (e ▸ dJ hj')
  split
  ·intro e;exact hno (e ▸ dJ hi')
  intro e
  rw [dZ,eE] at h4
  exact h4 i j hi' hj' hij e
 exact ⟨⟨⟨h1,h2⟩,hm⟩,h4⟩
theorem qF (T us:List (Int × Int)):kI T us=0 ↔ ∀ u ∈ us,(tyOf T u.1).isSome=true/\kX T u=false:=by
 unfold kI
 constructor
 ·intro h u hu
  split at h
  ·cases h
  split at h
  ·cases h
  rename_i h1 h2
  simp only [dI,List.any_eq_false] at h1 h2
  exact ⟨by simpa using h1 u hu,by simpa using h2 u hu⟩
 intro h
 have h1:us.any (fun u => !(tyOf T u.1).isSome)=false:=by rw [List.any_eq_false];intro u hu;simp [(h u hu).1]
 have h2:us.any (kX T)=false:=by rw [List.any_eq_false];intro u hu;simp [(h u hu).2]
 rw [h1,h2];simp
theorem gW {f:FuncD}:eL f=0 ↔ iH f=true/\f.params.all kH=true/\(∀ i x,f.blocks[i]? = some x -> fN f.blocks.length f.arrays f.cells (x,i)=true)/\idsF f=true /\ ∀ x ∈ f.blocks, ∀ u ∈ mZ x,(tyOf (eR f) u.1).isSome=true/\kX (eR f) u=false:=by
 unfold eL gM
 constructor
 ·intro h
  split at h
  ·rename_i h1
   simp only [aN] at h1
   refine ⟨h1.1.1.1,h1.1.1.2,fun i x hi=>aZ.1 h1.1.2 (x,i) (by rw [bS];exact hi),h1.2,fun x hx u hu=>(qF _ _).1 h u ?_⟩
   unfold jD
   rw [bK]
   exact ⟨x,hx,hu⟩
  cases h
 rintro ⟨h1,h2,h3,h4,h5⟩
 have h6:f.blocks.zipIdx.all (fN f.blocks.length f.arrays f.cells)=true:=by
  rw [aZ]
  rintro ⟨x,i⟩ hx
  rw [bS] at hx
  exact h3 i x hx
 rw [h1,h2,h6,h4]
 simp only [Bool.and_self,if_true]
 rw [qF]
 intro u hu
 unfold jD at hu
 rw [bK] at hu
 obtain ⟨x,hx,hu⟩:=hu
 exact h5 x hx u hu
theorem iU {nb:Nat} {ar ce:Int} {x:BlockD} {i:Nat}:fN nb ar ce (x,i)=true ↔ (i=0 -> x.phis=[])/\(∀ p ∈ x.phis,iR nb p=true)/\(x.code.all (fQ ar ce))=true/\gS nb x.term=true:=by
 unfold fN
 simp only [aN,aZ,eA,Bool.and_eq_false_iff,decide_eq_false_iff_not]
 constructor
 ·rintro ⟨⟨⟨h1,h2⟩,h3⟩,h4⟩
  refine ⟨fun hi => ?_,h2,h3,h4⟩
  rcases h1 with h1 | h1
  ·exact absurd hi h1
  exact cJ (by omega)
 rintro ⟨h1,h2,h3,h4⟩
 refine ⟨⟨⟨?_,h2⟩,h3⟩,h4⟩
 by_cases hi:i=0
 ·right;rw [h1 hi];simp
 left;exact hi
theorem getD_some {α : Type} {l:List α} {i:Nat} {x d : α} (h:l[i]? = some x):l.getD i d=x:=by rw [aH,h];rfl
theorem qG {α : Type} {l:List α} {i:Nat} {x : α} (g : α -> α) (h:l[i]? = some x):l.modify i g=l.set i (g x):=by
 apply bN
 intro j
 rw [eC,cP]
 by_cases e:i=j
 ·subst e
  have:=(aE.1 h).1
  rw [h,if_pos rfl,if_pos this];simp
 simp [e]
theorem Off.grow {S S' : Foot} {A B C:World} (h:Off S A B) (k:Off S' B C) (hs:∀ q,S' q -> S q \/ A.heap.size <= q):Off S A C :=
 ⟨k.os.trans h.os,k.tape.trans h.tape,k.output.trans h.output,aJ h.size k.size,fun i hi hn=>(k.block i (aL hi h.size) fun hm=>(hs i hm).elim hn (fun h=>by omega)).trans (h.block i hi hn)⟩
theorem eM.narrow {W:World} {S:Foot} {xs:List Int} {g cap n:Nat} (h:eM W S (.slice (some ⟨g,0,none⟩) n cap) xs) (hn:0 < xs.length):eM W (Foot.one g) (.slice (some ⟨g,0,none⟩) n cap) xs/\S g:=by
 obtain ⟨⟨h1,h2,h3,h4⟩,h5⟩:=h
 rcases h4 with ⟨h4,_⟩ | ⟨g',cap',cur,hv,hg,r⟩
 ·omega
 cases hv
 exact ⟨⟨⟨h1,h2,fun k hk=>by cases hk;exact h3 g hg,.inr ⟨g,cap,cur,rfl,rfl,r⟩⟩,h5⟩,hg⟩
theorem xZ {w:World} {o:Oper} {a:Act} (s x:Operand)
  (ho:o.op = .call { callee:=.builtin .append,args:=#[s,x],argTypes:=#[22,22] }) {v:Value} {B:Nat} {y:Int} (hs:a.eval s=v) (hx:a.eval x = .slice (some ⟨B,0,none⟩) 1 1) {S:Foot} {xs:List Int} {n:Nat} (hn:xs.length=n)
  (H:eM w S v xs) (hB:Box w B #[.int .i64 y]) (hy:In64 y) (hlen:n+1 <= 100000) {XF:Nat -> Foot} {i:Nat} (hX:∀ k,S k -> XF i k) :
  ∃ u w'',(execOp a.eval o).run Tryz.prog w = .ok (.value u) w'' /\ (∃ g cap,u = .slice (some ⟨g,0,none⟩) (n+1) cap/\eM w'' (Foot.one g) u (xs ++ [y])/\(S g \/ w.heap.size <= g))/\Four.Step XF (fun _=>True) i w w'':=by
 obtain ⟨v',w',G',hrun,r1,r2,r3, -⟩:=sQ (P:=Tryz.prog) s x 22 3 ho mA hs hx H.1 (rE (n:=1) (size:=1) (ds:=[.int .i64 y]) hB rfl (by omega)) (by intro u hu;simp at hu;subst hu;rfl) (by omega) (by omega)
 have hO:eM w' G' v' (xs ++ [y]):=by
  refine ⟨?_,fun z hz => ?_⟩
  ·rw [aQ,bF];exact r1
  rcases aO.1 hz with h | h
  ·exact H.2 z h
  simp at h;subst h;exact hy
 obtain ⟨g,cap,rfl,hg, -⟩:=hO.1.addr (by simp)
 have hl:(xs ++ [y]).length=n+1:=by simp [hn]
 rw [hl] at hO hrun
 obtain ⟨k1,k2⟩:=hO.narrow (by omega)
 exact ⟨_,w',hrun,⟨g,cap,rfl,k1,r2 g k2⟩,r3.mono fun k _ hk=>hX k hk,fun h=>h⟩
theorem pE {w:World} {o:Oper} {a:Act} (s x:Operand)
  (ho:o.op = .call { callee:=.builtin .append,args:=#[s,x],argTypes:=#[22,22] }) {v:Value} {B:Nat} {y:Int} (hs:a.eval s=v) (hx:a.eval x = .slice (some ⟨B,0,none⟩) 1 1) {S:Foot} {xs:List Int} {n:Nat} (hn:xs.length=n)
  (H:eM w S v xs) (hB:Box w B #[.int .i64 y]) (hy:In64 y) (hlen:n+1 <= 100000) {XF:Nat -> Foot} {i:Nat} (hX:∀ k,S k -> XF i k) {Z:Value -> World -> Prop}
  (hZ:∀ g cap w'',eM w'' (Foot.one g) (.slice (some ⟨g,0,none⟩) (n+1) cap) (xs ++ [y]) -> (S g \/ w.heap.size <= g) -> Z (.slice (some ⟨g,0,none⟩) (n+1) cap) w'') :
  ∃ u w'',(execOp a.eval o).run Tryz.prog w = .ok (.value u) w'' /\ Z u w'' /\ Four.Step XF (fun _=>True) i w w'':=by
 obtain ⟨u,w'',h1,⟨g,c,e,h2,h3⟩,h4⟩:=xZ (XF:=XF) (i:=i) s x ho hs hx hn H hB hy hlen hX
 subst e
 exact ⟨_,w'',h1,hZ g c w'' h2 h3,h4⟩
theorem Off.cell {S:Foot} {W W' : World} (h:Off S W W') {b o:Nat} (hl:b < W.heap.size) (hn:¬ S b):W'.cell? ⟨b,o,none⟩=W.cell? ⟨b,o,none⟩:=World.cell?_of_block (w:=W) (a:=⟨b,o,none⟩) (h.block b hl hn)
theorem aCW {xs:List Int} {x:Int} (h:x ∈ xs):idxI xs x=(xs.idxOf x:Nat):=if_pos h
theorem pF {f:FuncD} (hc:eL f=0):(∀ x ∈ f.blocks,x.phis.length <= 100000/\x.code.length <= 100000)/\f.blocks.length <= 100000:=by
 have hf:=(eS hc).1
 have hs:=(kF hf).size
 have hn:=(gV hf).2
 refine ⟨fun x hx => ?_,by omega⟩
 have h1:gD x <= kZ f:=by
  unfold kZ
  have:∀ (l:List BlockD),x ∈ l -> gD x <= (l.map gD).sum/\0 <= (l.map gD).sum:=by
   intro l
   induction l with
   | nil=>intro h;cases h
   | cons y l ih =>
    intro h
    have hy:0 <= gD y:=by unfold gD;omega
    have hnn:∀ (l:List BlockD),0 <= (l.map gD).sum:=by
     intro l
     induction l with
     | nil=>simp
     | cons z l ih=>have:0 <= gD z:=(by unfold gD;omega);simp only [cR,List.sum_cons];omega
    have:=hnn l
    simp only [cR,List.sum_cons]
    rcases bM.1 h with rfl | h
    ·omega
    have:=(ih h).1;omega
  exact (this _ hx).1
 unfold gD at h1
 omega
end Go.Proofs.YtcmflfkpeodicaaGreat
