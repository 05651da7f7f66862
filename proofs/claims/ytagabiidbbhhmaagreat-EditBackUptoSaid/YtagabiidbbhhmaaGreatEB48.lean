/- Part 48. -/
import Derived.Test.YtagabiidbbhhmaaGreatEB47
namespace Go.Proofs.YtagabiidbbhhmaaGreat
set_option linter.all false
open Go.RowKit Go.Shelf
theorem zD {w:World} {S:Foot} {v:Value} {xs:List Int} (h:eV w S v xs):Calls Tryz.prog 59 #[v] w fun e w'=>e = .returned (.tuple #[])/\eV w' S v (jH xs)/\Off S w w':=by
 obtain ⟨⟨hl,hb,hlt,hf⟩,h64⟩:=h
 have h64' : ∀ x ∈ jH xs,In64 x:=fun x hx=>h64 x ((gV xs).mem_iff.1 hx)
 have hsl:(jH xs).length=xs.length:=(gV xs).length_eq
 rcases hf with ⟨h0,a,rfl⟩ | ⟨g,cap,cur,rfl,hg,hh,h1,h2,h3,h4⟩
 ·have hx:xs=[]:=bY h0
  subst hx
  have hs:jH []=[]:=bY (by rw [hsl];rfl)
  refine (Any.slices_Sort_int_none nS a 0 w).mono ?_
  rintro e w' ⟨rfl,rfl⟩
  rw [hs]
  exact ⟨rfl,⟨⟨hl,hb,hlt,.inl ⟨rfl,a,rfl⟩⟩,h64⟩,Off.refl _ _⟩
 refine (Any.slices_Sort_int nS g 0 cap xs w (Go.holds_of_blockI hh (by rw [eJ] at h4;exact h4)) (aL.1 hh).1 (by omega)).mono ?_
 rintro e w' ⟨rfl,nd,os,hw⟩
 have hoff:Off S w w':=by rw [hw];exact Off.grown (Go.grownBy_sortedI _) (fun k hk=>by cases hk;exact hg)
 subst hw
 refine ⟨rfl,⟨?_,h64'⟩,hoff⟩
 rw [hsl]
 exact ORow.of_own (Go.ownsRow_sortedI (base:=0) (List.mergeSort_perm _ _).length_eq (aJ _) hh h1 h2 h3) hb (fun k hk=>by cases hk;exact hg) (fun k hk=>bA (hlt k hk) hoff.size)
theorem OBlock.parts {W:World} {S:Foot} {cs:List Value} {x:BlockD} (h:OBlock W S cs x) :
  ∃ (ap ai at_:Option Addr) (cp ci ct:Nat) (S1 S2 S3:Foot),cs=[.slice ap x.phis.length cp,.slice ai x.code.length ci,.int .i64 x.term.op,.int .i64 x.term.val,.slice at_ x.term.to.length ct,.int .i64 x.term.n] /\
   gI W S1 (.slice ap x.phis.length cp) x.phis/\iN W S2 (.slice ai x.code.length ci) x.code/\eV W S3 (.slice at_ x.term.to.length ct) x.term.to/\S1.off S2/\S1.off S3/\S2.off S3/\(∀ k,S1 k -> S k)/\(∀ k,S2 k -> S k)/\(∀ k,S3 k -> S k) /\
   In64 x.term.op/\In64 x.term.val/\In64 x.term.n /\
   ∀ (W' : World) (ps:List PhiD) (ys:List InstrD) (to:List Int),gI W' S1 (.slice ap x.phis.length cp) ps -> iN W' S2 (.slice ai x.code.length ci) ys -> eV W' S3 (.slice at_ x.term.to.length ct) to -> W.heap.size <= W'.heap.size -> OBlock W' S cs ⟨ps,ys, { x.term with to:=to }⟩:=by
 obtain ⟨⟨pv,uv,t,S1,S2,S3,rfl,h1,h2,h3,h12,h13,h23,i1,i2,i3⟩,hl⟩:=h
 obtain ⟨⟨tv,rfl,hto⟩,q1,q2,q3⟩:=h3
 obtain ⟨ap,cp,rfl⟩:=(h1.reads (R0:=PhiR) fun _ _ _ h=>h.reads).form
 obtain ⟨ai,ci,rfl⟩:=(h2.reads (R0:=gY) fun _ _ _ h=>h.reads).form
 obtain ⟨at_,ct,rfl⟩:=hto.ints.form
 refine ⟨ap,ai,at_,cp,ci,ct,S1,S2,S3,rfl,h1,h2,hto,h12,h13,h23,i1,i2,i3,q1,q2,q3,fun W' ps ys to hp hc ht hs => ?_⟩
 exact ⟨⟨_,_,_,S1,S2,S3,rfl,hp,hc,⟨⟨_,rfl,ht⟩,q1,q2,q3⟩,h12,h13,h23,i1,i2,i3⟩,fun k hk=>bA (hl k hk) hs⟩
def kO {α : Type} (ys xs:List α) (j:Nat):List α := ys.take j ++ xs.drop j
theorem sV {α : Type} (ys xs:List α):kO ys xs 0=xs:=by simp [kO]
theorem lK {α : Type} {ys xs:List α} (h:ys.length=xs.length) (j:Nat):(kO ys xs j).length=xs.length:=by unfold kO;rw [aI,aR,dC];omega
theorem wC {α : Type} {ys xs:List α} (h:ys.length=xs.length):kO ys xs xs.length=ys:=by unfold kO;rw [List.drop_length,bR,aH (by omega)]
theorem wD {α : Type} {ys xs:List α} (h:ys.length=xs.length) {j:Nat} {y : α} (hj:ys[j]? = some y):(kO ys xs j).set j y=kO ys xs (j+1):=by
 have hl:=(aD.1 hj).1
 apply bH
 intro q
 unfold kO
 rw [cC,cV,cV]
 simp only [aI,aR,dC,aW,bS]
 by_cases e:j=q
 ·subst e
  rw [if_pos rfl,if_pos (by omega),if_pos (by omega),if_pos (by omega),hj]
 rw [if_neg e]
 by_cases h2:q < j
 ·rw [if_pos (by omega),if_pos h2,if_pos (by omega),if_pos (by omega)]
 rw [if_neg (by omega),if_neg (by omega)]
 congr 1
 omega
theorem aBV {O:List Nat} {src:List Int} (hn:src.Nodup) (hm:∀ q ∈ src,0 <= q/\q.toNat ∈ O):(src.map (plO O)).Nodup:=by
 have hinj:∀ q ∈ src, ∀ r ∈ src,plO O q=plO O r -> q=r:=fun q hq r hr e=>by
  have h1:=dI (hm q hq).2
  have h2:=dI (hm r hr).2
  unfold plO at e
  have h3:O.idxOf q.toNat=O.idxOf r.toNat:=by omega
  have h4:O[O.idxOf q.toNat]=O[O.idxOf r.toNat]:=by simp only [h3]
  rw [List.getElem_idxOf,List.getElem_idxOf] at h4
  have:=(hm q hq).1;have:=(hm r hr).1
  omega
 rw [dJ,List.pairwise_map]
 rw [dJ] at hn
 exact (List.Pairwise.and_mem.1 hn).imp fun ⟨ha,hb,hne⟩ e=>hne (hinj _ ha _ hb e)
theorem aBW {O:List Nat} {n:Nat} {q:Int} (hm:q.toNat ∈ O) (hl:q.toNat < n):(hJ n O O.length)[q.toNat]? = some (plO O q):=by
 unfold hJ plO
 rw [aM,dV hl,cN,cO,if_pos hm]
def lX (O:List Nat) (p:PhiD):List (Int × Int):=(p.src.map (plO O)).zip p.vals
theorem wE {O:List Nat} {p:PhiD} (hn:p.src.Nodup) (hm:∀ q ∈ p.src,0 <= q/\q.toNat ∈ O) {j:Nat} {q v:Int} (hq:p.src[j]? = some q) (hv:p.vals[j]? = some v) :
  mput (encT ((lX O p).take j)) (plO O q) (.int .i64 v)=encT ((lX O p).take (j+1)):=by
 have hz:(lX O p)[j]? = some (plO O q,v):=by
  unfold lX
  rw [cW]
  exact ⟨by rw [aM,hq];rfl,hv⟩
 rw [eP _ _ _ hz]
 refine mH (iB.2 fun hmem => ?_)
 obtain ⟨⟨k,u⟩,h1,h2⟩:=aX.1 hmem
 simp only at h2
 obtain ⟨i,hi⟩:=List.getElem?_of_mem h1
 rw [aW] at hi
 split at hi
 ·rename_i hij
  unfold lX at hi
  rw [cW] at hi
  have h3:(p.src.map (plO O))[j]? = some (plO O q):=by rw [aM,hq];rfl
  have h4:=hi.1
  rw [h2] at h4
  obtain ⟨h5,h6⟩:=aD.1 h3
  obtain ⟨h7,h8⟩:=aD.1 h4
  have:=(List.getElem_inj (aBV hn hm)).1 (h6.trans h8.symm)
  omega
 ·cases hi
theorem rD {T:List (Int × Int)} (h:∀ p ∈ T,In64 p.2) (v:Int):In64 ((tyOf T v).getD 0):=by
 cases ht:tyOf T v with
 | none=>exact ⟨by simp,by simp⟩
 | some t=>exact h _ (pY ht)
theorem wF {np:Nat} {ids:List Int} (h:np+ids.length <= 1000000):∀ p ∈ fC np ids,In64 p.2:=by
 intro p hp
 unfold fC at hp
 rw [aN] at hp
 rcases hp with hp | hp
 ·unfold parJ at hp
  obtain ⟨i,hi,rfl⟩:=aX.1 hp
  rw [cS] at hi
  exact ⟨by simp only;omega,by simp only;omega⟩
 unfold gX at hp
 obtain ⟨⟨u,i⟩,hi,rfl⟩:=aX.1 hp
 rw [bT] at hi
 have:=(aD.1 hi).1
 simp only at this
 exact ⟨by simp only;omega,by simp only;omega⟩
theorem Turn.off {b:Nat} {w w' : World} (h:Turn [b] w w'):Off (Foot.one b) w w':=⟨h.os,h.tape,h.output,h.size,fun k hk hn=>h.block k hk (by rw [cY];exact hn)⟩
def OldK (W W2:World):Prop := ∀ k,k < W.heap.size -> W2.heap[k]? = W.heap[k]?
theorem zE (W:World):Holds [] 0 W (fun k=>k < W.heap.size) (OldK W) :=
 ⟨fun _ _=>rfl,fun W1 W2 h1 hk k hl=>(hk k hl).trans (h1 k hl),fun k hk=>hk,fun _ _=>aJ _,fun _ _ hm=>by cases hm⟩
theorem OldK.cell {W W2:World} (h:OldK W W2) {b o:Nat} (hb:b < W.heap.size):W2.cell? ⟨b,o,none⟩=W.cell? ⟨b,o,none⟩:=by
 have h1:=h b hb
 unfold World.cell?
 simp only [h1]
theorem sW {f:FuncD} {O:List Nat} (hc:eS f=0) (hO:fO f O) (hall:∀ d,d < f.blocks.length -> Way (toB f) (-1) d):f.params.length+(idsO f O).length <= 4112:=by
 have h1:=(tZ hc hO hall).length_eq
 have h2:=nR (fA hc).1
 unfold eQ at h2
 rw [aI] at h2
 rw [h1,bE]
 have h3:(parT f.params).length=f.params.length:=by simp [parT]
 omega
theorem tY {f:FuncD} {O:List Nat} {j b:Nat} (hj:O[j]? = some b):idsO f (O.take (j+1))=idsO f (O.take j) ++ kN (kQ f b):=by
 unfold idsO;exact fP _ O j b hj
theorem zF {f:FuncD} {O:List Nat} {j b:Nat} (hj:O[j]? = some b):∃ post,idsO f O=idsO f (O.take j) ++ kN (kQ f b) ++ post:=by
 refine ⟨idsO f (O.drop (j+1)), ?_⟩
 rw [<-tY hj]
 unfold idsO
 rw [<-List.flatMap_append,dF]
def idP (g:Int -> Int) (p:PhiD):PhiD := { p with id:=g p.id }
def idX (g:Int -> Int) (y:InstrD):InstrD := { y with id:=if 0 <= y.id then g y.id else y.id }
theorem aE4 (g:Int -> Int) (O:List Nat) (x:BlockD):idB g O x=⟨x.phis.map (idP g),x.code.map (idX g), { x.term with to:=x.term.to.map (plO O) }⟩:=rfl
def fU (A:List PhiD):List Int:=A.map (·.id)
def fI (C:List InstrD):List Int:=(C.filter fun y=>decide (0 <= y.id)).map (·.id)
theorem rE (x:BlockD):kN x=fU x.phis ++ fI x.code:=rfl
theorem aBX {np:Nat} {pre post B:List Int} {A:List PhiD} {k:Nat} {p:PhiD} (h:Named np (pre ++ (fU A ++ B) ++ post)) (hp:A[k]? = some p) :
  tyOf (fC np (pre ++ fU (A.take k))) p.id=none/\fC np (pre ++ fU (A.take (k+1)))=fC np (pre ++ fU (A.take k)) ++ [(p.id,(((fC np (pre ++ fU (A.take k))).length:Nat):Int))]/\renV np (pre ++ (fU A ++ B) ++ post) p.id=(((fC np (pre ++ fU (A.take k))).length:Nat):Int):=by
 have hA:fU A=fU (A.take k) ++ p.id :: fU (A.drop (k+1)):=by
  unfold fU
  conv=>lhs;rw [<-List.take_append_drop (k+1) A]
  rw [eP _ _ _ hp]
  simp
 have hs:fU (A.take (k+1))=fU (A.take k) ++ [p.id]:=by unfold fU;rw [eP _ _ _ hp];simp
 have hw:pre ++ (fU A ++ B) ++ post=(pre ++ fU (A.take k)) ++ p.id :: (fU (A.drop (k+1)) ++ B ++ post):=by rw [hA];simp
 rw [hw] at h ⊢
 rw [hs, <-List.append_assoc]
 exact pB h
theorem zG {np:Nat} {pre post:List Int} {C:List InstrD} {k:Nat} {y:InstrD} (h:Named np (pre ++ fI C ++ post)) (hy:C[k]? = some y) (h0:0 <= y.id) :
  tyOf (fC np (pre ++ fI (C.take k))) y.id=none/\fC np (pre ++ fI (C.take (k+1)))=fC np (pre ++ fI (C.take k)) ++ [(y.id,(((fC np (pre ++ fI (C.take k))).length:Nat):Int))]/\renV np (pre ++ fI C ++ post) y.id=(((fC np (pre ++ fI (C.take k))).length:Nat):Int):=by
 have hC:fI C=fI (C.take k) ++ y.id :: fI (C.drop (k+1)):=by
  unfold fI
  conv=>lhs;rw [<-List.take_append_drop (k+1) C]
  rw [eP _ _ _ hy]
  simp [eA,h0]
 have hs:fI (C.take (k+1))=fI (C.take k) ++ [y.id]:=by unfold fI;rw [eP _ _ _ hy];simp [eA,h0]
 have hw:pre ++ fI C ++ post=(pre ++ fI (C.take k)) ++ y.id :: (fI (C.drop (k+1)) ++ post):=by rw [hC];simp
 rw [hw] at h ⊢
 rw [hs, <-List.append_assoc]
 exact pB h
theorem zH {C:List InstrD} {k:Nat} {y:InstrD} (hy:C[k]? = some y) (h0:¬ 0 <= y.id):fI (C.take (k+1))=fI (C.take k):=by
 unfold fI;rw [eP _ _ _ hy];simp [eA,h0]
theorem wG {α : Type} {g : α -> α} {xs:List α} {i:Nat} {x : α} (h:xs[i]? = some x) (hx:g x=x):gJ g xs (i+1)=gJ g xs i:=by
 rw [<-gU h,hx]
 apply bH
 intro q
 rw [cC]
 by_cases e:i=q
 ·subst e
  rw [if_pos rfl,gZ,h,if_pos (by rw [eY];exact (aD.1 h).1)]
 rw [if_neg e]
theorem aDM {f:FuncD} {O:List Nat} {g:Int -> Int} (hf:gS f=true) (hO:∀ d ∈ O,d < f.blocks.length) (hall:∀ d,d < f.blocks.length -> d ∈ O) {x:BlockD} (hx:x ∈ O.map fun b=>mapB g (idB g O (kQ f b))) {p:PhiD} (hp:p ∈ x.phis) :
  p.src.Nodup/\p.src.length=p.vals.length /\ ∀ q ∈ p.src,0 <= q/\q.toNat ∈ O/\q.toNat < f.blocks.length:=by
 obtain ⟨b,hb,rfl⟩:=aX.1 hx
 have hbl:=hO b hb
 rw [nF (aC hbl)] at hp
 unfold mapB idB at hp
 simp only [cI,aX,Function.comp] at hp
 obtain ⟨p0,hp0,rfl⟩:=hp
 obtain ⟨h1,h2,h3⟩:=aFH hf (aC hbl) hp0
 unfold mapP
 refine ⟨h1,by simpa using h2,fun q hq => ?_⟩
 have h4:=h3 q hq
 exact ⟨h4.1,hall _ (by omega),by omega⟩
theorem rF {f:FuncD} {O:List Nat} (hO:fO f O) (hall:∀ d,d < f.blocks.length -> Way (toB f) (-1) d):∀ d,d < f.blocks.length -> d ∈ O:=fun d hd=>(hO.facts.2.1 d).2 (hall d hd)
theorem wH {f:FuncD} {O:List Nat} (g:Int -> Int):(O.map fun b=>mapB g (idB g O (kQ f b))).map (sY O)=O.map fun b=>renB g O (kQ f b):=by
 rw [cI]
 apply dD
 intro b _
 exact zP g O _
theorem OldK.box {W W2:World} {b:Nat} {A:Array Value} (h:OldK W W2) (hb:Box W b A):Box W2 b A:=by
 have hh:=h b hb.lt
 have hl:b < W2.heap.size:=by
  rw [aV hb.lt] at hh
  exact (aL.1 hh).1
 exact ⟨hl,fun o=>(World.cell?_of_block (w:=W) (a:=⟨b,o,none⟩) hh).trans (hb.cell o),fun o=>(World.frozen?_of_block (w:=W) (a:=⟨b,o,none⟩) hh).trans (hb.free o)⟩
theorem OldK.off {W1 W W' : World} {S:Foot} (h:OldK W1 W) (ho:Off S W W') (hs:∀ k,S k -> W1.heap.size <= k) (hz:W1.heap.size <= W.heap.size):OldK W1 W':=fun k hk=>(ho.block k (by omega) (fun hm=>by have:=hs k hm;omega)).trans (h k hk)
theorem Off.frozenA {S:Foot} {W W' : World} (h:Off S W W') {p:Addr} (hl:p.block < W.heap.size) (hn:¬ S p.block):W'.frozen? p=W.frozen? p:=World.frozen?_of_block (w:=W) (h.block p.block hl hn)
theorem Off.cellA {S:Foot} {W W' : World} (h:Off S W W') {p:Addr} (hl:p.block < W.heap.size) (hn:¬ S p.block):W'.cell? p=W.cell? p:=World.cell?_of_block (w:=W) (h.block p.block hl hn)
theorem aBY {O:List Nat} (h:O.Nodup) {i b:Nat} (hi:O[i]? = some b):b ∉ O.take i:=by
 intro hm
 obtain ⟨j,hj⟩:=List.getElem?_of_mem hm
 rw [aW] at hj
 split at hj
 ·obtain ⟨h1,h2⟩:=aD.1 hi
  obtain ⟨h3,h4⟩:=aD.1 hj
  have:=(List.getElem_inj h).1 (h4.trans h2.symm)
  omega
 cases hj
theorem IMap.off {W W' : World} {b:Nat} {m:List (Int × Value)} {S:Foot} (h:IMap W b m) (ho:Off S W W') (hn:¬ S b):IMap W' b m:=h.keep (ho.block b h.lt hn)
theorem zI (j:Nat):mput (encT (parJ j)) (j:Int) (.int .i64 (j:Int))=encT (parJ (j+1)):=by
 rw [mH (iB.2 (fun h=>by have:=(nZ (np:=j) (v:=(j:Int))).1 h;omega))]
 unfold parJ
 rw [List.range_succ,bC]
 rfl
theorem zJ (np:Nat):fC np []=parJ np:=by unfold fC gX;simp
open Go.RowKit
section
variable {P:Program} {ops:Array Oper}
def Oper.callsOne (P:Program) (o:Oper) (a:Act) (w:World) (D:Nat -> Prop) (v:Value) (T:World -> Prop) (Z:List PanicEntry -> World -> Prop):Prop :=
 ∃ f args,(execOp a.eval o).run P w = .ok (.enter f args) w/\Calls P f args w fun e w'=>(e = .returned v/\T w') \/ ∃ ch,e = .panicked ch/\Z ch w'
def kR (P:Program) (ops:Array Oper) (w0:World) (p:Nat) (D:Nat -> Prop) (v:Value) (T:World -> Prop) (Z:List PanicEntry -> World -> Prop) (L:Act -> World -> Prop):List Oper -> Nat -> Act -> Prop
 | [],_,a => ∀ w',T w' -> L a w'
 | o :: rest,k,a =>
  if k=p then (Region.wanted o (yielded ops a.tmps)=true /\ ∀ w',Below w0.heap.size w0 w' -> Oper.callsOne P o a w' D v T Z)/\kR P ops w0 p D v T Z L rest (k+1) (a.put o.dst v)
  else if Region.wanted o (yielded ops a.tmps) then ∃ v',(∀ w',(Below w0.heap.size w0 w' \/ T w') -> Oper.yields P o a w' v')/\kR P ops w0 p D v T Z L rest (k+1) (a.put o.dst v')
  else kR P ops w0 p D v T Z L rest (k+1) (a.put o.dst undef)
section
variable {w0:World} {p:Nat} {D:Nat -> Prop} {v:Value} {T:World -> Prop} {Z:List PanicEntry -> World -> Prop} {L:Act -> World -> Prop} {o:Oper} {rest:List Oper} {k:Nat} {a:Act}
theorem kR.val {v' : Value} (hk:k ≠ p) (hg:Region.wanted o (yielded ops a.tmps)=true)
  (hy:∀ w',(Below w0.heap.size w0 w' \/ T w') -> (execOp a.eval o).run P w' = .ok (.value v') w') (h:kR P ops w0 p D v T Z L rest (k+1) (a.put o.dst v')):kR P ops w0 p D v T Z L (o :: rest) k a:=by
 simp only [kR,hg,if_true,if_neg hk]
 exact ⟨v',fun w' h1=>⟨w',.inl (hy w' h1),Below.refl _ _⟩,h⟩
theorem kR.call {f:FuncId} {args:Array Value} (hk:k=p) (hg:Region.wanted o (yielded ops a.tmps)=true)
  (hrun:∀ w' : World,(execOp a.eval o).run P w' = .ok (.enter f args) w') (hy:∀ w',Below w0.heap.size w0 w' -> Calls P f args w' fun e w''=>(e = .returned v/\T w'') \/ ∃ ch,e = .panicked ch/\Z ch w'')
  (h:kR P ops w0 p D v T Z L rest (k+1) (a.put o.dst v)):kR P ops w0 p D v T Z L (o :: rest) k a:=by
 simp only [kR,if_pos hk]
 exact ⟨⟨hg,fun w' h1=>⟨f,args,hrun w',hy w' h1⟩⟩,h⟩
end
def aDN (P:Program) (ops:Array Oper) (w0:World) (p:Nat) (D:Nat -> Prop) (v:Value) (T:World -> Prop) (Z:List PanicEntry -> World -> Prop) (o:Oper) (k:Nat) (a:Act) (u:Value):Prop :=
 (k=p/\u=v/\Region.wanted o (yielded ops a.tmps)=true /\ ∀ w',Below w0.heap.size w0 w' -> Oper.callsOne P o a w' D v T Z) \/
 (k ≠ p/\Region.wanted o (yielded ops a.tmps)=true /\ ∀ w',(Below w0.heap.size w0 w' \/ T w') -> Oper.yields P o a w' u) \/
 (k ≠ p/\Region.wanted o (yielded ops a.tmps)=false/\u=undef)
theorem aE5 {n:Nat} {w0:World} {p:Nat} {D:Nat -> Prop} {v:Value} {T:World -> Prop} {Z:List PanicEntry -> World -> Prop} {L:Act -> World -> Prop} {a0:Act} (ht:lT ops n=true) :
  ∀ (l:List Oper) (k:Nat) (a:Act) (v0:Nat -> Value),(∀ j,j < l.length -> ops[k+j]? = l[j]?) -> k+l.length=n -> Fr ops n a0 v0 (· < k) a -> kR P ops w0 p D v T Z L l k a ->
   ∃ vals:Nat -> Value,(∀ j,j < k -> vals j=v0 j)/\(∀ j o,ops[j]? = some o -> k <= j -> j < n -> ∃ b,Fr ops n a0 vals (· < j) b/\aDN P ops w0 p D v T Z o j b (vals j)) /\
    ∃ b,Fr ops n a0 vals (· < n) b /\ ∀ w',T w' -> L b w'
 | [],k,a,v0,_,hk,hf,h=>by
  have hk' : k=n:=by simpa using hk
  subst hk'
  exact ⟨v0,fun _ _=>rfl,fun j o _ h1 h2=>by omega,a,hf,h⟩
 | o :: rest,k,a,v0,hl,hk,hf,h=>by
  simp only [aZ] at hk
  have ho:ops[k]? = some o:=by simpa using hl 0 (by simp)
  have hl' : ∀ j,j < rest.length -> ops[k+1+j]? = rest[j]?:=fun j hj=>by
   have:=hl (j+1) (by simp;omega)
   simpa [Nat.add_assoc,Nat.add_comm 1 j] using this
  have key:∃ u,aDN P ops w0 p D v T Z o k a u/\kR P ops w0 p D v T Z L rest (k+1) (a.put o.dst u):=by
   simp only [kR] at h
   by_cases hkp:k=p
   ·rw [if_pos hkp] at h
    exact ⟨v,.inl ⟨hkp,rfl,h.1.1,h.1.2⟩,h.2⟩
   rw [if_neg hkp] at h
   by_cases hw:Region.wanted o (yielded ops a.tmps)=true
   ·simp only [hw,if_true] at h
    obtain ⟨u,h2,h3⟩:=h
    exact ⟨u,.inr (.inl ⟨hkp,hw,h2⟩),h3⟩
   simp only [eL] at hw
   simp only [hw,bM,if_false] at h
   exact ⟨undef,.inr (.inr ⟨hkp,hw,rfl⟩),h⟩
  obtain ⟨u,hs,hg⟩:=key
  let v1:Nat -> Value:=fun j=>if j=k then u else v0 j
  have e1:∀ j,j < k -> v1 j=v0 j:=fun j hj=>by simp only [v1];rw [if_neg (by omega)]
  have ek:v1 k=u:=by simp [v1]
  have hf1:Fr ops n a0 v1 (· < k) a:=hf.congr (fun j _ hj=>(e1 j hj).symm) (fun _ _=>Iff.rfl)
  have hf2:=hf1.put ht ho (by omega)
  rw [ek] at hf2
  have hf3:Fr ops n a0 v1 (· < k+1) (a.put o.dst u):=hf2.congr (fun _ _ _=>rfl) (fun j _=>by omega)
  obtain ⟨vals,hv,hst,hd⟩:=aE5 ht rest (k+1) _ v1 hl' (by omega) hf3 hg
  refine ⟨vals,fun j hj=>(hv j (by omega)).trans (e1 j hj),fun j oj hj hkj hjn => ?_,hd⟩
  by_cases hjk:j=k
  ·subst hjk
   rw [ho] at hj
   cases hj
   refine ⟨a,hf1.congr (fun i _ hi=>(hv i (by omega)).symm) (fun _ _=>Iff.rfl), ?_⟩
   rw [hv j (by omega),ek]
   exact hs
  exact hst j oj hj (by omega) hjn
set_option maxHeartbeats 1000000 in
theorem aDO {n:Nat} {w0:World} {p:Nat} {D:Nat -> Prop} {v:Value} {T:World -> Prop} {Z:List PanicEntry -> World -> Prop} {Q:Exit -> Act -> World -> Prop} {tail:List Oper} {a0:Act} (hB:jZ ops n=true) (hp:p < n) {vals:Nat -> Value}
  (htail:∀ j,tail[j]? = ops[n+j]?) (hT:∀ w w',T w -> Below w.heap.size w w' -> T w')
  (hst:∀ j o,ops[j]? = some o -> j < n -> ∃ b,Fr ops n a0 vals (· < j) b/\aDN P ops w0 p D v T Z o j b (vals j)) (hdone:∃ b,Fr ops n a0 vals (· < n) b /\ ∀ w',T w' -> wpList P ops Q tail b w') (hQ:∀ ch a' w',a'.defers=a0.defers -> Z ch w' -> Q (.panic ch) a' w') :
  ∀ (m:Nat) (listed:Array Bool) (a:Act) (w:World),HeadInv .any ops n listed -> cnt listed n=m ->
   ((listed.getD p true=false/\Below w0.heap.size w0 w) \/ (listed.getD p false=true/\T w)) -> Fr ops n a0 vals (fun j=>listed.getD j false=true) a -> wpAny P .any ops Q (m+(ops.size - n)) listed a w:=by
 simp only [jZ,aK,cJ,decide_eq_true_eq,beq_iff_eq] at hB
 obtain ⟨⟨⟨⟨⟨hsel,hn⟩,hed⟩,ht⟩,hsc⟩,hseq⟩:=hB
 intro m
 induction m with
 | zero =>
  intro listed a w inv hcnt hpw hfr
  have hlen:tail.length=ops.size - n:=by
   apply Nat.le_antisymm
   ·by_cases hle:tail.length <= ops.size - n
    ·exact hle
    have h1:=htail (ops.size - n)
    rw [bD (by omega)] at h1
    have:=dT.1 h1
    omega
   by_cases hle:ops.size - n <= tail.length
   ·exact hle
   have h1:=htail tail.length
   rw [aS (aA _)] at h1
   have:=cK.1 h1.symm
   omega
  have hl:∀ j,j < n -> listed.getD j false=true:=fun j hj=>gA (jQ n hcnt j hj) (by rw [inv.size];omega)
  have hlist:listed=gH ops.size n:=by
   apply dS
   intro j
   by_cases hj:j < ops.size
   ·have e2:(gH ops.size n)[j]? = some (decide (j < n)):=by simp [gH,hj]
    rw [e2]
    by_cases hjn:j < n
    ·have:=hl j hjn
     rw [bQ] at this
     cases hx:listed[j]? with
     | none=>rw [hx] at this;cases this
     | some b=>rw [hx] at this;simp at this;rw [this,decide_eq_true hjn]
    have:=inv.tail j (by omega) hj
    rw [bQ] at this
    cases hx:listed[j]? with
    | none=>rw [hx] at this;cases this
    | some b=>rw [hx] at this;simp at this;rw [this,decide_eq_false hjn]
   rw [bD (by rw [inv.size];omega),bD (by simp [gH];omega)]
  have hTw:T w:=by
   rcases hpw with ⟨h1,_⟩ | ⟨_,h2⟩
   ·have:=jQ n hcnt p hp
    rw [this] at h1;cases h1
   exact h2
  obtain ⟨b,hb1,hb2⟩:=hdone
  have hab:a=b:=hfr.eq hb1 fun j hj=>⟨fun _=>hj,fun _=>hl j hj⟩
  subst hab
  have:=wpAny_of_seq (md:=.any) (Q':=Q) tail n listed a w htail (by rw [hlist,hlen];exact hseq) (hb2 w hTw)
  rw [hlen] at this
  rw [bG]
  exact this
 | succ m ih =>
  intro listed a w inv hcnt hpw hfr
  rw [show m+1+(ops.size - n)=(m+(ops.size - n))+1 by omega]
  obtain ⟨k0,hk0,hu0,hless⟩:=jY (listed:=listed) n (by omega)
  have hready0:k0 ∈ Region.ready .any ops listed:=by
   refine mem_ready.2 ⟨hu0,ops[k0],aV (by omega),fun e he hbi => ?_⟩
   have:=iW hed hk0 (aV (by omega)) he hbi
   exact gA (hless _ this) (by rw [inv.size];omega)
  refine ⟨fun h0=>(by rw [h0] at hready0;cases hready0),fun i hi => ?_⟩
  have hin:i < n:=by
   rcases dN i n with h | h
   ·exact h
   rcases hsc with h1 | h1
   ·obtain ⟨_,o,ho,_⟩:=mem_ready.1 hi
    have:=(aL.1 ho).1
    omega
   by_cases hns:n < ops.size
   ·exact absurd hi (tail_waits h1.1 h1.2 hns inv _ k0 rfl hk0 hu0 i h)
   obtain ⟨_,o,ho,_⟩:=mem_ready.1 hi
   have:=(aL.1 ho).1
   omega
  obtain ⟨hun,o,ho,hedge⟩:=mem_ready.1 hi
  have hinv':=inv.set hi hin
  have hcnt' : cnt (listed.setIfInBounds i true) n=m:=by
   have:=(nA (by rw [inv.size];omega) hun n).2 hin
   omega
  have hset:∀ j,(listed.setIfInBounds i true).getD j false=true ↔ (j=i \/ listed.getD j false=true):=fun j=>by
   by_cases e:i=j
   ·subst e
    have:i < listed.size:=by rw [inv.size];omega
    simp [this]
   rw [getD_set_ne false e]
   exact ⟨fun h=>.inr h,fun h=>h.resolve_left (fun e'=>e e'.symm)⟩
  obtain ⟨b,hfb,hstep⟩:=hst i o ho hin
  have hlook:∀ d,d ∈ o.looksAt ops -> a.tmps[d]? = b.tmps[d]?:=fun d hd=>Fr.same ht hfr hfb ho hin (fun j hj he hji=>by
   obtain ⟨oj,hoj,e,hem,hbi,hon⟩:=gT he
   rw [ho] at hoj
   cases hoj
   exact ⟨by rw [<-hon];exact hedge e hem hbi,hji,rfl⟩) d hd
  obtain ⟨ex,ew⟩:=iZ (ops:=ops) (o:=o) (fun cs b=>Region.noSelect_spec hsel i o cs b ho) hlook
  have hw0:Below w0.heap.size w0 w \/ T w:=hpw.imp (fun h=>h.2) (fun h=>h.2)
  have next:i ≠ p -> ∀ (w' : World),Below w.heap.size w w' -> wpAny P .any ops Q (m+(ops.size - n)) (listed.setIfInBounds i true) (a.put o.dst (vals i)) w':=fun hip w' hg=>by
   refine ih _ _ _ hinv' hcnt' ?_ ((hfr.put ht ho hin).congr (fun _ _ _=>rfl) (fun j _=>(hset j).symm))
   rcases hpw with ⟨h1,h2⟩ | ⟨h1,h2⟩
   ·left
    exact ⟨by rw [getD_set_ne true hip];exact h1,Below.more h2 h2.size hg⟩
   right
   exact ⟨(hset p).2 (.inr h1),hT w w' h2 hg⟩
  unfold wpOp
  simp only [ho]
  rw [ew]
  rcases hstep with ⟨hip,hvv,hw,hy⟩ | ⟨hip,hw,hy⟩ | ⟨hip,hw,hv⟩
  ·rw [if_pos hw]
   left
   subst hip
   have hbw:Below w0.heap.size w0 w:=by
    rcases hpw with ⟨_,h2⟩ | ⟨h1,_⟩
    ·exact h2
    rw [getD_both hun] at h1;cases h1
   obtain ⟨f,args,hr,hcall⟩:=hy w hbw
   unfold Oper.wp
   rw [ex,hr,Oper.upon_enter]
   refine hcall.mono fun e w' hz => ?_
   rcases hz with ⟨he,hz⟩ | ⟨ch,he,hz⟩
   ·subst he
    show wpAny P .any ops Q (m+(ops.size - n)) (listed.setIfInBounds i true) (a.put o.dst v) w'
    rw [<-hvv]
    exact ih _ _ _ hinv' hcnt' (.inr ⟨(hset i).2 (.inl rfl),hz⟩) ((hfr.put ht ho hin).congr (fun _ _ _=>rfl) (fun j _=>(hset j).symm))
   subst he
   exact hQ ch _ w' hfr.defers hz
  ·rw [if_pos hw]
   left
   obtain ⟨w',hr,hg⟩:=hy w hw0
   unfold Oper.wp
   rw [ex]
   rcases hr with hr | ⟨hr,hv⟩
   ·rw [hr];exact next hip w' hg
   rw [hr,Oper.upon_skip, <-hv];exact next hip w' hg
  rw [hw]
  simp only [bM,if_false]
  rw [<-hv]
  exact next hip w (Below.refl _ _)
theorem qB {id:Nat} {Q:Exit -> Act -> World -> Prop} {a:Act} {w:World} {l:List Oper} (n p:Nat) (D:Nat -> Prop) (v:Value) (T:World -> Prop) (Z:List PanicEntry -> World -> Prop) (hm:P.follows .mixedOrders=true) (hB:jZ l.toArray n=true) (hp:p < n)
  (hT:∀ w w',T w -> Below w.heap.size w w' -> T w') (hQ:∀ ch a' w',a'.defers=a.defers -> Z ch w' -> Q (.panic ch) a' w') (h:kR P l.toArray w p D v T Z (wpList P l.toArray Q (l.drop n)) (l.take n) 0 a):(Code.region id l.toArray true).wp P Q a w:=by
 have hB':=hB
 simp only [jZ,aK,cJ,decide_eq_true_eq,beq_iff_eq] at hB
 obtain ⟨⟨⟨⟨⟨hsel,hn⟩,hed⟩,ht⟩,hsc⟩,hseq⟩:=hB
 have hn' : n <= l.length:=by simpa using hn
 obtain ⟨vals, -,hst,hdone⟩:=aE5 (P:=P) (ops:=l.toArray) ht (l.take n) 0 a (fun _=>undef) (fun j hj=>by
  have hj' : j < n:=by simp at hj;omega
  simp [hj']) (by simp;omega) (Fr.start fun j _ hj=>by omega) h
 refine wp_region_any hm ?_
 have inv0:HeadInv .any l.toArray n (Array.replicate l.toArray.size false) :=
  ⟨by simp,fun j oj _ hl=>(by rw [getD_replicate_false] at hl;cases hl),fun t _ ht=>getD_in (by simpa using ht) (getD_replicate_false _ _)⟩
 have hc:∀ m,m <= l.toArray.size -> cnt (Array.replicate l.toArray.size false) m=m:=by
  intro m
  induction m with
  | zero=>intro _;rfl
  | succ m ih =>
   intro hm
   have:(Array.replicate l.toArray.size false).getD m true=false:=getD_in (by simp at hm ⊢;omega) (getD_replicate_false _ _)
   simp only [cnt]
   rw [ih (by omega),this]
   simp
 have:=aDO (P:=P) (Q:=Q) (tail:=l.drop n) hB' hp (fun j=>by simp [bS]) hT (fun j o ho hj=>hst j o ho (aJ _) hj) hdone hQ n (Array.replicate l.toArray.size false) a w.drew inv0 (hc n hn) (.inl ⟨getD_in (by simp;omega) (getD_replicate_false _ _),(Below.refl _ w).drew⟩)
  (Fr.start fun j _ hl=>by rw [getD_replicate_false] at hl;cases hl)
 rw [show n+(l.toArray.size - n)=l.toArray.size by omega] at this
 exact this
end
end Go.Proofs.YtagabiidbbhhmaaGreat
