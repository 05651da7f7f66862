/- Part 29. -/
import Derived.ArgAppend
import Derived.Lib.SliceRun
import Derived.Test.YtgmhnepmkaonaaaGreatPE28
namespace Go.Proofs.YtgmhnepmkaonaaaGreat
set_option linter.all false
open Go.RowKit
theorem vW {P:Program} {w:World} {t ty e:TypeId} {z:Value} {size bytes:Nat} (he:Elem P t e z size bytes) {v xv:Value} {n m:Nat} {cs news:List Value} {G:Foot} (h:ORow w G e size v n cs) (hr:Row w xv m size news)
  (h1:∀ u ∈ news,u.oneCell' = true) (hbig:n+m <= 17592186044416) (hbytes:(n+m) * bytes <= 140737488355328) :
  ∃ v' w' G',(Builtin.append_ #[t,t] ty #[v,xv]).run P w = .ok v' w' /\ ORow w' G' e size v' (n+m) (cs ++ news)/\(∀ k,G' k -> G k \/ w.heap.size <= k)/\Off G w w' /\
   (∀ g j,v.ownBlock=some g -> j < n * size -> w'.cell? ⟨g,j,none⟩=w.cell? ⟨g,j,none⟩):=by
 have hbl:n+m <= maxLen:=by unfold maxLen;omega
 have fin:∀ (base:Nat) (v' : Value) (w' : World),w'.ownsRow base e size v' (n+m) (cs ++ news) -> (∀ k,v'.ownBlock=some k -> G k \/ w.heap.size <= k) -> ∃ G',ORow w' G' e size v' (n+m) (cs ++ news) /\ ∀ k,G' k -> G k \/ w.heap.size <= k:=fun base v' w' r1 r2 =>
  ⟨fun k=>v'.ownBlock=some k,ORow.of_own r1 hbig (fun k hk=>hk) (fun k hk=>(r1.lt k hk).2),r2⟩
 have hlen:=h.len
 rcases h.form with ⟨rfl,a,rfl⟩ | ⟨g,cap,cur,rfl,hg,hh,k1,k2,k3,k4⟩
 ·have hcs:cs=[]:=List.eq_nil_of_length_eq_zero (by simpa using hlen)
  subst hcs
  have hno:∀ g j,(Value.slice a 0 0).ownBlock=some g -> j < 0 * size -> w.cell? ⟨g,j,none⟩=w.cell? ⟨g,j,none⟩:=fun _ _ _ _=>rfl
  by_cases hm:m=0
  ·subst hm
   have hn:news=[]:=List.eq_nil_of_length_eq_zero (by simpa using hr.len)
   subst hn
   refine ⟨.slice a 0 0,w,Foot.none, ?_,ORow.nil a,fun k hk=>hk.elim,Off.refl _ _,fun g j _ hj=>by simp at hj⟩
   obtain ⟨ht,⟨i,hi,hz,hsz,hby⟩,hzc,hp⟩:=he
   obtain ⟨_,_,ad,cap,rfl,_,_,_,_⟩:=hr
   cases a <;> cases ad <;> simp [Builtin.append_,run_underlying ht,sizeOf,typeInfo,hi,Builtin.lenOf,Builtin.firstCells,loadCells,loadCellsFrom,storeCells]
  cases a with
  | none =>
   obtain ⟨v',w',hrun,r1,r2,r3, -, -⟩:=jD (ty:=ty) he w.heap.size (World.ownsRow_nil w w.heap.size e size) hr h1 hbl hbytes (aB _)
   obtain ⟨G',g1,g2⟩:=fin _ v' w' r1 (fun k hk=>.inr (r1.lt k hk).1)
   exact ⟨v',w',G',hrun,g1,g2,Off.grown r2 (fun k hk=>by cases hk),fun g j _ hj=>by simp at hj⟩
  | some b =>
   obtain ⟨ht,⟨i,hi,hz,hsz,hby⟩,hzc,hp⟩:=he
   obtain ⟨hl,_,ad,cap,rfl,_,_,hnone,hc⟩:=hr
   cases ad with
   | none=>exact absurd (hnone rfl).1 hm
   | some ad =>
    obtain ⟨v',w',hrun,r1,r2⟩:=run_append_arg_grows (P:=P) w t ty e i z size bytes ht hi hz hsz hby hzc hp b 0 0 [] (by simp) (fun j u hj=>by simp at hj) ad m cap news hl (fun j u hj=>hc ad rfl j u hj) (by omega) hbl hbytes
    obtain ⟨G',g1,g2⟩:=fin _ v' w' r1 (fun k hk=>.inr (r1.lt k hk).1)
    exact ⟨v',w',G',hrun,g1,g2,Off.grown r2 (fun k hk=>by cases hk),fun g j _ hj=>by simp at hj⟩
 ·have hown:w.ownsRow 0 e size (.slice (some ⟨g,0,none⟩) n cap) n cs:=⟨hlen,.inr ⟨g,cap,cur,rfl,aO _,hh,k1,k2,k3,k4⟩⟩
  obtain ⟨v',w',hrun,r1,r2,r3,r4, -⟩:=jD (ty:=ty) he 0 hown hr h1 hbl hbytes (aO _)
  obtain ⟨G',g1,g2⟩:=fin _ v' w' r1 (fun k hk=>by
   rcases r3 with e3 | e3
   ·rw [e3] at hk;cases hk;exact .inl hg
   rw [e3] at hk;cases hk;exact .inr (aB _))
  exact ⟨v',w',G',hrun,g1,g2,Off.grown r2 (fun k hk=>by cases hk;exact hg),r4⟩
theorem mO {P:Program} {w:World} {ops:Array Oper} {rest:List Oper} {o:Oper} {a:Act} {Q:Exit -> Act -> World -> Prop} (hgd:o.guard=none) (s x:Operand) (t e:TypeId)
  (ho:o.op = .call { callee:=.builtin .append,args:=#[s,x],argTypes:=#[t,t] }) {z:Value} {size bytes:Nat} (he:Elem P t e z size bytes)
  {v xv:Value} {n m:Nat} {cs news:List Value} {G:Foot} (hs:a.eval s=v) (hx:a.eval x=xv) (h:ORow w G e size v n cs) (hr:Row w xv m size news)
  (h1:∀ u ∈ news,u.oneCell' = true) (hbig:n+m <= 17592186044416) (hbytes:(n+m) * bytes <= 140737488355328)
  (hK:∀ v' w' G',ORow w' G' e size v' (n+m) (cs ++ news) -> (∀ k,G' k -> G k \/ w.heap.size <= k) -> Off G w w' -> wpList P ops Q rest (a.put o.dst v') w'):wpList P ops Q (o :: rest) a w:=by
 obtain ⟨v',w',G',hrun,r1,r2,r3, -⟩:=vW (ty:=o.type) he h hr h1 hbig hbytes
 refine wpList_plain hgd fun K hK' => ?_
 unfold Oper.wp execOp
 simp only [ho,resolve,invoke,builtin,Sem.run_bind,Sem.run_pure,Result.andThen_ok,List.map_toArray,cQ,eD,hs,hx,hrun]
 exact hK' _ _ (hK v' w' G' r1 r2 r3)
theorem tH {P:Program} {w:World} {o:Oper} {a:Act} (s x:Operand) (t e:TypeId)
  (ho:o.op = .call { callee:=.builtin .append,args:=#[s,x],argTypes:=#[t,t] }) {z:Value} {size bytes:Nat} (he:Elem P t e z size bytes)
  {v xv:Value} {n m:Nat} {cs news:List Value} {G:Foot} (hs:a.eval s=v) (hx:a.eval x=xv) (h:ORow w G e size v n cs) (hr:Row w xv m size news)
  (h1:∀ u ∈ news,u.oneCell' = true) (hbig:n+m <= 17592186044416) (hbytes:(n+m) * bytes <= 140737488355328) :
  ∃ v' w' G',(execOp a.eval o).run P w = .ok (.value v') w' /\ ORow w' G' e size v' (n+m) (cs ++ news)/\(∀ k,G' k -> G k \/ w.heap.size <= k)/\Off G w w' /\
   (∀ g j,v.ownBlock=some g -> j < n * size -> w'.cell? ⟨g,j,none⟩=w.cell? ⟨g,j,none⟩):=by
 obtain ⟨v',w',G',hrun,r⟩:=vW (ty:=o.type) he h hr h1 hbig hbytes
 refine ⟨v',w',G', ?_,r⟩
 unfold execOp
 simp only [ho,resolve,invoke,builtin,Sem.run_bind,Sem.run_pure,Result.andThen_ok,List.map_toArray,cQ,eD,hs,hx,hrun]
def lV (base:Nat) (S:Foot):Prop := ∀ k,S k -> base <= k
theorem lV.off {base:Nat} {S D:Foot} (h:lV base S) (hD:∀ k,D k -> k < base):S.off D:=fun k hs hd=>by have:=h k hs;have:=hD k hd;omega
def aEU (xs:List Int) (w:World) (e:Ending) (w' : World):Prop := ∃ u S,e = .returned u/\eV w' S u xs/\lV w.heap.size S/\Below w.heap.size w w'
set_option maxHeartbeats 1600000 in
theorem qO {w:World} {v:Value} {xs:List Int} (hs:Ints w v xs):Calls Tryz.prog 100 #[v] w (aEU xs w):=by
 have q4:∀ (w:World) (a:Option Addr) (n c n' c' : Nat),(binOp .eql 22 (.slice a n c) (.slice none n' c')).run Tryz.prog w = .ok (.bool a.isNone) w:=fun w a n c n' c'=>Lib.run_eql_slice_nil w _ _ a n c n' c' Tryz.underlying22
 obtain ⟨a,c,b,o,rfl, -, -,ha, -⟩:=hs.parts
 have HS:=h! hs
 obtain ⟨n,hn⟩ : ∃ n,n=xs.length:=⟨_,rfl⟩
 have HN:=h! hn
 rw [<-hn] at HS ha ⊢
 have HA:=h! ha
 clear hs ha hn
 cases a with
 | none =>
  have hx:xs=[]:=by
   have h:=HA.out
   refine cO ?_
   rw [<-HN.out]
   exact Classical.byContradiction fun h2=>by have:=(h (by omega)).1;cases this
  have HX:=h! hx
  clear hx
  go_enter Tryz.func100,Tryz.ntmps100
  go_wp2
  go_ret
  exact ⟨_,Foot.none,rfl,by rw [HX.out];exact eV.nil none,fun k hk=>hk.elim,Below.refl _ _⟩
 | some ad =>
  go_enter Tryz.func100,Tryz.ntmps100
  go_wp2_with (at_builtin;refine mO rfl _ _ 22 3 rfl mL rfl rfl (ORow.of_own (n:=0) (cs:=[]) (G:=Foot.one w.heap.size) (aB7 w 3) (by omega) (fun k hk=>by cases hk;rfl) (fun k hk=>by cases hk;simp)) (HS.out.below ((Below.refl _ _).alloc (aB _) _)).1 (pJ _) (by rw [bG];exact HS.out.1.big) (by rw [bG];have:=HS.out.1.big;omega) ?_;intro v2 w2 G2 r1 r2 r3;have R1:=h! r1;have R2:=h! r2;have R3:=h! r3;clear r1 r2 r3)
  go_ret
  have h1:=R1.out
  rw [bG,eF] at h1
  refine ⟨v2,G2,rfl,⟨h1,HS.out.2⟩,fun k hk => ?_,((Below.refl _ _).alloc (aB _) _).trans (R3.out.below (by simp) fun k _ hk=>by cases hk;exact aB _)⟩
  rcases R2.out k hk with h2 | h2
  ·cases h2;exact aB _
  simp at h2;omega
end Go.Proofs.YtgmhnepmkaonaaaGreat
