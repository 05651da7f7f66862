/- Part 30. -/
import Derived.Test.YtagabiidbbhhmaaGreatEC29
import Derived.Lib.SliceRun
namespace Go.Proofs.YtagabiidbbhhmaaGreat
set_option linter.all false
open Go.RowKit
def eP (W:World) (S:Foot) (v:Value) (xs:List Int):Prop:=ORow W S 3 1 v xs.length (xs.map (.int .i64)) /\ ∀ x ∈ xs,In64 x
theorem eP.ints {W:World} {S:Foot} {v:Value} {xs:List Int} (h:eP W S v xs):Ints W v xs:=⟨h.1.row,h.2⟩
theorem eP.keep {W W' : World} {S:Foot} {v:Value} {xs:List Int} (h:eP W S v xs) (hk:∀ k,S k -> W'.heap[k]? = W.heap[k]?):eP W' S v xs:=⟨h.1.keep hk,h.2⟩
theorem eP.wide {W:World} {S S' : Foot} {v:Value} {xs:List Int} (h:eP W S v xs) (hs:∀ k,S k -> S' k) (hl:∀ k,S' k -> k < W.heap.size):eP W S' v xs:=⟨h.1.wide hs hl,h.2⟩
theorem eP.lt {W:World} {S:Foot} {v:Value} {xs:List Int} (h:eP W S v xs):∀ k,S k -> k < W.heap.size:=h.1.lt
theorem eP.off {W W' : World} {S D:Foot} {v:Value} {xs:List Int} (h:eP W S v xs) (ho:Off D W W') (hn:S.off D):eP W' S v xs:=⟨h.1.off ho hn,h.2⟩
theorem eP.set {W:World} {S:Foot} {v:Value} {xs:List Int} (h:eP W S v xs) {g cap:Nat} (hv:v = .slice (some ⟨g,0,none⟩) xs.length cap) {i:Nat} (hi:i < xs.length) {y:Int} (hy:In64 y):eP (W.setCell ⟨g,i,none⟩ (.int .i64 y)) S v (xs.set i y):=by
 refine ⟨by rw [cI,List.map_set];exact h.1.set hv (by omega) i _,fun z hz => ?_⟩
 rcases List.mem_or_eq_of_mem_set hz with h1 | h1
 ·exact h.2 z h1
 rw [h1];exact hy
theorem eP.nil {W:World} (a:Option Addr):eP W Foot.none (.slice a 0 0) []:=⟨ORow.nil a,by simp⟩
structure OPhi (W:World) (S:Foot) (cs:List Value) (p:PhiD):Prop where
 ex:∃ v u S1 S2,cs=[.int .i64 p.id,.int .i64 p.typ,v,u]/\eP W S1 v p.src/\eP W S2 u p.vals/\S1.off S2/\(∀ k,S1 k -> S k) /\ ∀ k,S2 k -> S k
 lt:∀ k,S k -> k < W.heap.size
 id:In64 p.id
 typ:In64 p.typ
structure OInstr (W:World) (S:Foot) (cs:List Value) (x:InstrD):Prop where
 ex:∃ v,cs=[.int .i64 x.op,.int .i64 x.id,v,.int .i64 x.n]/\eP W S v x.args
 op:In64 x.op
 id:In64 x.id
 n:In64 x.n
structure OTerm (W:World) (S:Foot) (cs:List Value) (t:TermD):Prop where
 ex:∃ v,cs=[.int .i64 t.op,.int .i64 t.val,v,.int .i64 t.n]/\eP W S v t.to
 op:In64 t.op
 val:In64 t.val
 n:In64 t.n
theorem OPhi.nice:Nice OPhi where
 keep:=fun h hk=>by
  obtain ⟨⟨v,u,S1,S2,e,h1,h2,h3,h4,h5⟩,hl,a,b⟩:=h
  refine ⟨⟨v,u,S1,S2,e,h1.keep fun k hk1=>hk k (h4 k hk1),h2.keep fun k hk1=>hk k (h5 k hk1),h3,h4,h5⟩,fun k hs => ?_,a,b⟩
  have h6:=hk k hs
  rw [aU (hl k hs)] at h6
  exact (aL.1 h6).1
 lt:=fun h=>h.lt
 wide:=fun h hs hl=>by
  obtain ⟨⟨v,u,S1,S2,e,h1,h2,h3,h4,h5⟩,_,a,b⟩:=h
  exact ⟨⟨v,u,S1,S2,e,h1,h2,h3,fun k hk=>hs k (h4 k hk),fun k hk=>hs k (h5 k hk)⟩,hl,a,b⟩
theorem OInstr.nice:Nice OInstr where
 keep:=fun ⟨⟨v,e,h⟩,a,b,c⟩ hk=>⟨⟨v,e,h.keep hk⟩,a,b,c⟩
 lt:=fun ⟨⟨v,e,h⟩,a,b,c⟩=>h.lt
 wide:=fun ⟨⟨v,e,h⟩,a,b,c⟩ hs hl=>⟨⟨v,e,h.wide hs hl⟩,a,b,c⟩
theorem OTerm.nice:Nice OTerm where
 keep:=fun ⟨⟨v,e,h⟩,a,b,c⟩ hk=>⟨⟨v,e,h.keep hk⟩,a,b,c⟩
 lt:=fun ⟨⟨v,e,h⟩,a,b,c⟩=>h.lt
 wide:=fun ⟨⟨v,e,h⟩,a,b,c⟩ hs hl=>⟨⟨v,e,h.wide hs hl⟩,a,b,c⟩
abbrev fZ:=OSl OPhi 78 4
abbrev gV:=OSl OInstr 82 4
structure OBlock (W:World) (S:Foot) (cs:List Value) (b:BlockD):Prop where
 ex:∃ v u t S1 S2 S3,cs=v :: u :: t/\fZ W S1 v b.phis/\gV W S2 u b.code/\OTerm W S3 t b.term/\S1.off S2/\S1.off S3/\S2.off S3/\(∀ k,S1 k -> S k)/\(∀ k,S2 k -> S k) /\ ∀ k,S3 k -> S k
 lt:∀ k,S k -> k < W.heap.size
theorem OBlock.nice:Nice OBlock where
 keep:=fun h hk=>by
  obtain ⟨⟨v,u,t,S1,S2,S3,e,h1,h2,h3,h4,h5,h6,h7,h8,h9⟩,hl⟩:=h
  refine ⟨⟨v,u,t,S1,S2,S3,e,h1.keep OPhi.nice fun k hk1=>hk k (h7 k hk1),h2.keep OInstr.nice fun k hk1=>hk k (h8 k hk1),OTerm.nice.keep h3 fun k hk1=>hk k (h9 k hk1),h4,h5,h6,h7,h8,h9⟩,fun k hs => ?_⟩
  have h6:=hk k hs
  rw [aU (hl k hs)] at h6
  exact (aL.1 h6).1
 lt:=fun h=>h.lt
 wide:=fun h hs hl=>by
  obtain ⟨⟨v,u,t,S1,S2,S3,e,h1,h2,h3,h4,h5,h6,h7,h8,h9⟩,_⟩:=h
  exact ⟨⟨v,u,t,S1,S2,S3,e,h1,h2,h3,h4,h5,h6,fun k hk=>hs k (h7 k hk),fun k hk=>hs k (h8 k hk),fun k hk=>hs k (h9 k hk)⟩,hl⟩
abbrev eU:=OSl OBlock 63 6
structure OFunc (W:World) (S:Foot) (v:Value) (f:FuncD):Prop where
 ex:∃ a b S1 S2,v = .agg #[a,.int .i64 f.arrays,.int .i64 f.cells,b]/\eP W S1 a f.params/\eU W S2 b f.blocks/\S1.off S2/\(∀ k,S1 k -> S k) /\ ∀ k,S2 k -> S k
 lt:∀ k,S k -> k < W.heap.size
 arrays:In64 f.arrays
 cells:In64 f.cells
theorem OFunc.keep {W W' : World} {S:Foot} {v:Value} {f:FuncD} (h:OFunc W S v f) (hk:∀ k,S k -> W'.heap[k]? = W.heap[k]?):OFunc W' S v f:=by
 obtain ⟨⟨a,b,S1,S2,e,h1,h2,h3,h4,h5⟩,hl,x,y⟩:=h
 refine ⟨⟨a,b,S1,S2,e,h1.keep fun k hk1=>hk k (h4 k hk1),h2.keep OBlock.nice fun k hk1=>hk k (h5 k hk1),h3,h4,h5⟩,fun k hs => ?_,x,y⟩
 have h6:=hk k hs
 rw [aU (hl k hs)] at h6
 exact (aL.1 h6).1
theorem OFunc.off {W W' : World} {S D:Foot} {v:Value} {f:FuncD} (h:OFunc W S v f) (ho:Off D W W') (hn:S.off D):OFunc W' S v f:=h.keep fun k hk=>ho.block k (h.lt k hk) (hn k hk)
theorem OFunc.below {W W' : World} {S:Foot} {v:Value} {f:FuncD} (h:OFunc W S v f) (hb:Below W.heap.size W W'):OFunc W' S v f:=h.off (.of_below hb Foot.none) fun k _ hk=>hk
theorem OFunc.wide {W:World} {S S' : Foot} {v:Value} {f:FuncD} (h:OFunc W S v f) (hs:∀ k,S k -> S' k) (hl:∀ k,S' k -> k < W.heap.size):OFunc W S' v f:=by
 obtain ⟨⟨a,b,S1,S2,e,h1,h2,h3,h4,h5⟩,_,x,y⟩:=h
 exact ⟨⟨a,b,S1,S2,e,h1,h2,h3,fun k hk=>hs k (h4 k hk),fun k hk=>hs k (h5 k hk)⟩,hl,x,y⟩
theorem OPhi.reads {W:World} {S:Foot} {cs:List Value} {p:PhiD} (h:OPhi W S cs p):PhiR W cs p:=by
 obtain ⟨⟨v,u,S1,S2,e,h1,h2,_⟩,_,a,b⟩:=h
 exact ⟨v,u,e,h1.ints,h2.ints,a,b⟩
theorem OInstr.reads {W:World} {S:Foot} {cs:List Value} {x:InstrD} (h:OInstr W S cs x):gW W cs x:=by
 obtain ⟨⟨v,e,h⟩,a,b,c⟩:=h
 exact ⟨v,e,h.ints,a,b,c⟩
theorem OTerm.reads {W:World} {S:Foot} {cs:List Value} {t:TermD} (h:OTerm W S cs t):wG W cs t:=by
 obtain ⟨⟨v,e,h⟩,a,b,c⟩:=h
 exact ⟨v,e,h.ints,a,b,c⟩
theorem OBlock.reads {W:World} {S:Foot} {cs:List Value} {b:BlockD} (h:OBlock W S cs b):gH W cs b:=by
 obtain ⟨⟨v,u,t,S1,S2,S3,e,h1,h2,h3,_⟩,_⟩:=h
 exact ⟨v,u,t,e,h1.reads fun _ _ _ h=>h.reads,h2.reads fun _ _ _ h=>h.reads,h3.reads⟩
theorem OFunc.reads {W:World} {S:Foot} {v:Value} {f:FuncD} (h:OFunc W S v f):fO W v f:=by
 obtain ⟨⟨a,b,S1,S2,e,h1,h2,_⟩,_,x,y⟩:=h
 exact ⟨a,b,e,h1.ints,x,y,h2.reads fun _ _ _ h=>h.reads⟩
theorem tQ {P:Program} {w:World} {t ty e:TypeId} {z:Value} {size bytes:Nat} (he:Elem P t e z size bytes) {v xv:Value} {n m:Nat} {cs news:List Value} {G:Foot} (h:ORow w G e size v n cs) (hr:Row w xv m size news)
  (h1:∀ u ∈ news,u.oneCell' = true) (hbig:n+m <= 17592186044416) (hbytes:(n+m) * bytes <= 140737488355328) :
  ∃ v' w' G',(Builtin.append_ #[t,t] ty #[v,xv]).run P w = .ok v' w' /\ ORow w' G' e size v' (n+m) (cs ++ news)/\(∀ k,G' k -> G k \/ w.heap.size <= k)/\Off G w w' /\
   (∀ g j,v.ownBlock=some g -> j < n * size -> w'.cell? ⟨g,j,none⟩=w.cell? ⟨g,j,none⟩):=by
 have hbl:n+m <= maxLen:=by unfold maxLen;omega
 have fin:∀ (base:Nat) (v' : Value) (w' : World),w'.ownsRow base e size v' (n+m) (cs ++ news) -> (∀ k,v'.ownBlock=some k -> G k \/ w.heap.size <= k) -> ∃ G',ORow w' G' e size v' (n+m) (cs ++ news) /\ ∀ k,G' k -> G k \/ w.heap.size <= k:=fun base v' w' r1 r2 =>
  ⟨fun k=>v'.ownBlock=some k,ORow.of_own r1 hbig (fun k hk=>hk) (fun k hk=>(r1.lt k hk).2),r2⟩
 have hlen:=h.len
 rcases h.form with ⟨rfl,a,rfl⟩ | ⟨g,cap,cur,rfl,hg,hh,k1,k2,k3,k4⟩
 ·have hcs:cs=[]:=List.eq_nil_of_length_eq_zero (by simpa using hlen)
  subst hcs
  have hno:∀ g j,(Value.slice a 0 0).ownBlock=some g -> j < 0 * size -> w.cell? ⟨g,j,none⟩=w.cell? ⟨g,j,none⟩:=fun _ _ _ _=>rfl
  by_cases hm:m=0
  ·subst hm
   have hn:news=[]:=List.eq_nil_of_length_eq_zero (by simpa using hr.len)
   subst hn
   refine ⟨.slice a 0 0,w,Foot.none, ?_,ORow.nil a,fun k hk=>hk.elim,Off.refl _ _,fun g j _ hj=>by simp at hj⟩
   obtain ⟨ht,⟨i,hi,hz,hsz,hby⟩,hzc,hp⟩:=he
   obtain ⟨_,_,ad,cap,rfl,_,_,_,_⟩:=hr
   cases a <;> cases ad <;> simp [Builtin.append_,run_underlying ht,sizeOf,typeInfo,hi,Builtin.lenOf,Builtin.firstCells,loadCells,loadCellsFrom,storeCells]
  cases a with
  | none =>
   obtain ⟨v',w',hrun,r1,r2,r3, -, -⟩:=iR (ty:=ty) he w.heap.size (World.ownsRow_nil w w.heap.size e size) hr h1 hbl hbytes (aA _)
   obtain ⟨G',g1,g2⟩:=fin _ v' w' r1 (fun k hk=>.inr (r1.lt k hk).1)
   exact ⟨v',w',G',hrun,g1,g2,Off.grown r2 (fun k hk=>by cases hk),fun g j _ hj=>by simp at hj⟩
  | some b =>
   obtain ⟨ht,⟨i,hi,hz,hsz,hby⟩,hzc,hp⟩:=he
   obtain ⟨hl,_,ad,cap,rfl,_,_,hnone,hc⟩:=hr
   cases ad with
   | none=>exact absurd (hnone rfl).1 hm
   | some ad =>
    obtain ⟨v',w',hrun,r1,r2⟩:=run_append_arg_grows (P:=P) w t ty e i z size bytes ht hi hz hsz hby hzc hp b 0 0 [] (by simp) (fun j u hj=>by simp at hj) ad m cap news hl (fun j u hj=>hc ad rfl j u hj) (by omega) hbl hbytes
    obtain ⟨G',g1,g2⟩:=fin _ v' w' r1 (fun k hk=>.inr (r1.lt k hk).1)
    exact ⟨v',w',G',hrun,g1,g2,Off.grown r2 (fun k hk=>by cases hk),fun g j _ hj=>by simp at hj⟩
 ·have hown:w.ownsRow 0 e size (.slice (some ⟨g,0,none⟩) n cap) n cs:=⟨hlen,.inr ⟨g,cap,cur,rfl,aI _,hh,k1,k2,k3,k4⟩⟩
  obtain ⟨v',w',hrun,r1,r2,r3,r4, -⟩:=iR (ty:=ty) he 0 hown hr h1 hbl hbytes (aI _)
  obtain ⟨G',g1,g2⟩:=fin _ v' w' r1 (fun k hk=>by
   rcases r3 with e3 | e3
   ·rw [e3] at hk;cases hk;exact .inl hg
   rw [e3] at hk;cases hk;exact .inr (aA _))
  exact ⟨v',w',G',hrun,g1,g2,Off.grown r2 (fun k hk=>by cases hk;exact hg),r4⟩
theorem lX {P:Program} {w:World} {ops:Array Oper} {rest:List Oper} {o:Oper} {a:Act} {Q:Exit -> Act -> World -> Prop} (hgd:o.guard=none) (s x:Operand) (t e:TypeId)
  (ho:o.op = .call { callee:=.builtin .append,args:=#[s,x],argTypes:=#[t,t] }) {z:Value} {size bytes:Nat} (he:Elem P t e z size bytes)
  {v xv:Value} {n m:Nat} {cs news:List Value} {G:Foot} (hs:a.eval s=v) (hx:a.eval x=xv) (h:ORow w G e size v n cs) (hr:Row w xv m size news)
  (h1:∀ u ∈ news,u.oneCell' = true) (hbig:n+m <= 17592186044416) (hbytes:(n+m) * bytes <= 140737488355328)
  (hK:∀ v' w' G',ORow w' G' e size v' (n+m) (cs ++ news) -> (∀ k,G' k -> G k \/ w.heap.size <= k) -> Off G w w' -> wpList P ops Q rest (a.put o.dst v') w'):wpList P ops Q (o :: rest) a w:=by
 obtain ⟨v',w',G',hrun,r1,r2,r3, -⟩:=tQ (ty:=o.type) he h hr h1 hbig hbytes
 refine wpList_plain hgd fun K hK' => ?_
 unfold Oper.wp execOp
 simp only [ho,resolve,invoke,builtin,Sem.run_bind,Sem.run_pure,Result.andThen_ok,List.map_toArray,cY,eJ,hs,hx,hrun]
 exact hK' _ _ (hK v' w' G' r1 r2 r3)
theorem yM {P:Program} {w:World} {o:Oper} {a:Act} (s x:Operand) (t e:TypeId)
  (ho:o.op = .call { callee:=.builtin .append,args:=#[s,x],argTypes:=#[t,t] }) {z:Value} {size bytes:Nat} (he:Elem P t e z size bytes)
  {v xv:Value} {n m:Nat} {cs news:List Value} {G:Foot} (hs:a.eval s=v) (hx:a.eval x=xv) (h:ORow w G e size v n cs) (hr:Row w xv m size news)
  (h1:∀ u ∈ news,u.oneCell' = true) (hbig:n+m <= 17592186044416) (hbytes:(n+m) * bytes <= 140737488355328) :
  ∃ v' w' G',(execOp a.eval o).run P w = .ok (.value v') w' /\ ORow w' G' e size v' (n+m) (cs ++ news)/\(∀ k,G' k -> G k \/ w.heap.size <= k)/\Off G w w' /\
   (∀ g j,v.ownBlock=some g -> j < n * size -> w'.cell? ⟨g,j,none⟩=w.cell? ⟨g,j,none⟩):=by
 obtain ⟨v',w',G',hrun,r⟩:=tQ (ty:=o.type) he h hr h1 hbig hbytes
 refine ⟨v',w',G', ?_,r⟩
 unfold execOp
 simp only [ho,resolve,invoke,builtin,Sem.run_bind,Sem.run_pure,Result.andThen_ok,List.map_toArray,cY,eJ,hs,hx,hrun]
def kW (base:Nat) (S:Foot):Prop := ∀ k,S k -> base <= k
theorem kW.off {base:Nat} {S D:Foot} (h:kW base S) (hD:∀ k,D k -> k < base):S.off D:=fun k hs hd=>by have:=h k hs;have:=hD k hd;omega
def aEU (xs:List Int) (w:World) (e:Ending) (w' : World):Prop := ∃ u S,e = .returned u/\eP w' S u xs/\kW w.heap.size S/\Below w.heap.size w w'
set_option maxHeartbeats 1600000 in
theorem qP {w:World} {v:Value} {xs:List Int} (hs:Ints w v xs):Calls Tryz.prog 90 #[v] w (aEU xs w):=by
 have q4:∀ (w:World) (a:Option Addr) (n c n' c' : Nat),(binOp .eql 22 (.slice a n c) (.slice none n' c')).run Tryz.prog w = .ok (.bool a.isNone) w:=fun w a n c n' c'=>Lib.run_eql_slice_nil w _ _ a n c n' c' Tryz.underlying22
 obtain ⟨a,c,b,o,rfl, -, -,ha, -⟩:=hs.parts
 have HS:=h! hs
 obtain ⟨n,hn⟩ : ∃ n,n=xs.length:=⟨_,rfl⟩
 have HN:=h! hn
 rw [<-hn] at HS ha ⊢
 have HA:=h! ha
 clear hs ha hn
 cases a with
 | none =>
  have hx:xs=[]:=by
   have h:=HA.out
   refine bX ?_
   rw [<-HN.out]
   exact Classical.byContradiction fun h2=>by have:=(h (by omega)).1;cases this
  have HX:=h! hx
  clear hx
  go_enter Tryz.func90,Tryz.ntmps90
  go_wp2
  go_ret
  exact ⟨_,Foot.none,rfl,by rw [HX.out];exact eP.nil none,fun k hk=>hk.elim,Below.refl _ _⟩
 | some ad =>
  go_enter Tryz.func90,Tryz.ntmps90
  go_wp2_with (at_builtin;refine lX rfl _ _ 22 3 rfl nR rfl rfl (ORow.of_own (n:=0) (cs:=[]) (G:=Foot.one w.heap.size) (qZ w 3) (by omega) (fun k hk=>by cases hk;rfl) (fun k hk=>by cases hk;simp)) (HS.out.below ((Below.refl _ _).alloc (aA _) _)).1 (mA _) (by rw [bE];exact HS.out.1.big) (by rw [bE];have:=HS.out.1.big;omega) ?_;intro v2 w2 G2 r1 r2 r3;have R1:=h! r1;have R2:=h! r2;have R3:=h! r3;clear r1 r2 r3)
  go_ret
  have h1:=R1.out
  rw [bE,dT] at h1
  refine ⟨v2,G2,rfl,⟨h1,HS.out.2⟩,fun k hk => ?_,((Below.refl _ _).alloc (aA _) _).trans (R3.out.below (by simp) fun k _ hk=>by cases hk;exact aA _)⟩
  rcases R2.out k hk with h2 | h2
  ·cases h2;exact aA _
  simp at h2;omega
end Go.Proofs.YtagabiidbbhhmaaGreat
