/- Part 48. -/
import Derived.Test.YtagabiidbbhhmaaGreatEU47
namespace Go.Proofs.YtagabiidbbhhmaaGreat
set_option linter.all false
open Go.RowKit Go.Shelf
theorem aBG {w:World} {S:Foot} {v:Value} {xs:List Int} (h:eR w S v xs):Calls Tryz.prog 59 #[v] w fun e w'=>e = .returned (.tuple #[])/\eR w' S v (jJ xs)/\Off S w w':=by
 obtain ⟨⟨hl,hb,ac,hf⟩,ad⟩:=h
 have ab : ∀ x ∈ jJ xs,In64 x:=fun x hx=>ad x ((iA xs).mem_iff.1 hx)
 have ae:(jJ xs).length=xs.length:=(iA xs).length_eq
 rcases hf with ⟨h0,a,rfl⟩ | ⟨g,af,cur,rfl,hg,hh,h1,h2,h3,h4⟩
 ·have hx:xs=[]:=bZ h0
  subst hx
  have hs:jJ []=[]:=bZ (by rw [ae];rfl)
  refine (Any.slices_Sort_int_none nX a 0 w).mono ?_
  rintro e w' ⟨rfl,rfl⟩
  rw [hs]
  exact ⟨rfl,⟨⟨hl,hb,ac,.inl ⟨rfl,a,rfl⟩⟩,ad⟩,Off.refl _ _⟩
 refine (Any.slices_Sort_int nX g 0 af xs w (Go.holds_of_blockI hh (by rw [dW] at h4;exact h4)) (aM.1 hh).1 (by omega)).mono ?_
 rintro e w' ⟨rfl,nd,os,hw⟩
 have aa:Off S w w':=by rw [hw];exact Off.grown (Go.grownBy_sortedI _) (fun k hk=>by cases hk;exact hg)
 subst hw
 refine ⟨rfl,⟨?_,ab⟩,aa⟩
 rw [ae]
 exact ORow.of_own (Go.ownsRow_sortedI (base:=0) (List.mergeSort_perm _ _).length_eq (aH _) hh h1 h2 h3) hb (fun k hk=>by cases hk;exact hg) (fun k hk=>aR (ac k hk) aa.size)
theorem OBlock.parts {W:World} {S:Foot} {cs:List Value} {x:BlockD} (h:OBlock W S cs x) :
  ∃ (ap ai at_:Option Addr) (cp ci ct:Nat) (S1 S2 S3:Foot),cs=[.slice ap x.phis.length cp,.slice ai x.code.length ci,.int .i64 x.term.op,.int .i64 x.term.val,.slice at_ x.term.to.length ct,.int .i64 x.term.n] /\
   fV W S1 (.slice ap x.phis.length cp) x.phis/\gX W S2 (.slice ai x.code.length ci) x.code/\eR W S3 (.slice at_ x.term.to.length ct) x.term.to/\S1.off S2/\S1.off S3/\S2.off S3/\(∀ k,S1 k -> S k)/\(∀ k,S2 k -> S k)/\(∀ k,S3 k -> S k) /\
   In64 x.term.op/\In64 x.term.val/\In64 x.term.n /\
   ∀ (W' : World) (ps:List PhiD) (ys:List InstrD) (to:List Int),fV W' S1 (.slice ap x.phis.length cp) ps -> gX W' S2 (.slice ai x.code.length ci) ys -> eR W' S3 (.slice at_ x.term.to.length ct) to -> W.heap.size <= W'.heap.size -> OBlock W' S cs ⟨ps,ys, { x.term with to:=to }⟩:=by
 obtain ⟨⟨pv,uv,t,S1,S2,S3,rfl,h1,h2,h3,ab,ad,aa,i1,i2,i3⟩,hl⟩:=h
 obtain ⟨⟨tv,rfl,ac⟩,q1,q2,q3⟩:=h3
 obtain ⟨ap,cp,rfl⟩:=(h1.reads (R0:=PhiR) fun _ _ _ h=>h.reads).form
 obtain ⟨ai,ci,rfl⟩:=(h2.reads (R0:=gZ) fun _ _ _ h=>h.reads).form
 obtain ⟨at_,ct,rfl⟩:=ac.ints.form
 refine ⟨ap,ai,at_,cp,ci,ct,S1,S2,S3,rfl,h1,h2,ac,ab,ad,aa,i1,i2,i3,q1,q2,q3,fun W' ps ys to hp hc ht hs => ?_⟩
 exact ⟨⟨_,_,_,S1,S2,S3,rfl,hp,hc,⟨⟨_,rfl,ht⟩,q1,q2,q3⟩,ab,ad,aa,i1,i2,i3⟩,fun k hk=>aR (hl k hk) hs⟩
def kV {α : Type} (ys xs:List α) (j:Nat):List α := ys.take j ++ xs.drop j
theorem tZ {α : Type} (ys xs:List α):kV ys xs 0=xs:=by simp [kV]
theorem lZ {α : Type} {ys xs:List α} (h:ys.length=xs.length) (j:Nat):(kV ys xs j).length=xs.length:=by unfold kV;rw [aI,aV,dA];omega
theorem yA {α : Type} {ys xs:List α} (h:ys.length=xs.length):kV ys xs xs.length=ys:=by unfold kV;rw [List.drop_length,bY,aJ (by omega)]
theorem yB {α : Type} {ys xs:List α} (h:ys.length=xs.length) {j:Nat} {y : α} (hj:ys[j]? = some y):(kV ys xs j).set j y=kV ys xs (j+1):=by
 have hl:=(aD.1 hj).1
 apply bG
 intro q
 unfold kV
 rw [cA,cR,cR]
 simp only [aI,aV,dA,aW,bK]
 by_cases e:j=q
 ·subst e
  rw [if_pos rfl,if_pos (by omega),if_pos (by omega),if_pos (by omega),hj]
 rw [if_neg e]
 by_cases h2:q < j
 ·rw [if_pos (by omega),if_pos h2,if_pos (by omega),if_pos (by omega)]
 rw [if_neg (by omega),if_neg (by omega)]
 congr 1
 omega
theorem aC0 {O:List Nat} {src:List Int} (hn:src.Nodup) (hm:∀ q ∈ src,0 <= q/\q.toNat ∈ O):(src.map (plO O)).Nodup:=by
 have aa:∀ q ∈ src, ∀ r ∈ src,plO O q=plO O r -> q=r:=fun q hq r hr e=>by
  have h1:=dC (hm q hq).2
  have h2:=dC (hm r hr).2
  unfold plO at e
  have h3:O.idxOf q.toNat=O.idxOf r.toNat:=by omega
  have h4:O[O.idxOf q.toNat]=O[O.idxOf r.toNat]:=by simp only [h3]
  rw [List.getElem_idxOf,List.getElem_idxOf] at h4
  have:=(hm q hq).1;have:=(hm r hr).1
  omega
 rw [dH,List.pairwise_map]
 rw [dH] at hn
 exact (List.Pairwise.and_mem.1 hn).imp fun ⟨ha,hb,hne⟩ e=>hne (aa _ ha _ hb e)
theorem aC1 {O:List Nat} {n:Nat} {q:Int} (hm:q.toNat ∈ O) (hl:q.toNat < n):(iC n O O.length)[q.toNat]? = some (plO O q):=by
 unfold iC plO
 rw [aO,dL hl,cP,cV,if_pos hm]
def mJ (O:List Nat) (p:PhiD):List (Int × Int):=(p.src.map (plO O)).zip p.vals
theorem yC {O:List Nat} {p:PhiD} (hn:p.src.Nodup) (hm:∀ q ∈ p.src,0 <= q/\q.toNat ∈ O) {j:Nat} {q v:Int} (hq:p.src[j]? = some q) (hv:p.vals[j]? = some v) :
  mput (encT ((mJ O p).take j)) (plO O q) (.int .i64 v)=encT ((mJ O p).take (j+1)):=by
 have hz:(mJ O p)[j]? = some (plO O q,v):=by
  unfold mJ
  rw [cX]
  exact ⟨by rw [aO,hq];rfl,hv⟩
 rw [eS _ _ _ hz]
 refine mZ (iI.2 fun hmem => ?_)
 obtain ⟨⟨k,u⟩,h1,h2⟩:=bB.1 hmem
 simp only at h2
 obtain ⟨i,hi⟩:=List.getElem?_of_mem h1
 rw [aW] at hi
 split at hi
 ·rename_i hij
  unfold mJ at hi
  rw [cX] at hi
  have h3:(p.src.map (plO O))[j]? = some (plO O q):=by rw [aO,hq];rfl
  have h4:=hi.1
  rw [h2] at h4
  obtain ⟨h5,h6⟩:=aD.1 h3
  obtain ⟨h7,h8⟩:=aD.1 h4
  have:=(List.getElem_inj (aC0 hn hm)).1 (h6.trans h8.symm)
  omega
 ·cases hi
theorem nH {T:List (Int × Int)} (h:∀ p ∈ T,In64 p.2) (v:Int):In64 ((tyOf T v).getD 0):=by
 cases ht:tyOf T v with
 | none=>exact ⟨by simp,by simp⟩
 | some t=>exact h _ (mY ht)
theorem yD {np:Nat} {ids:List Int} (h:np+ids.length <= 1000000):∀ p ∈ fK np ids,In64 p.2:=by
 intro p hp
 unfold fK at hp
 rw [aL] at hp
 rcases hp with hp | hp
 ·unfold parJ at hp
  obtain ⟨i,hi,rfl⟩:=bB.1 hp
  rw [cT] at hi
  exact ⟨by simp only;omega,by simp only;omega⟩
 unfold iD at hp
 obtain ⟨⟨u,i⟩,hi,rfl⟩:=bB.1 hp
 rw [bT] at hi
 have:=(aD.1 hi).1
 simp only at this
 exact ⟨by simp only;omega,by simp only;omega⟩
theorem Turn.off {b:Nat} {w w' : World} (h:Turn [b] w w'):Off (Foot.one b) w w':=⟨h.os,h.tape,h.output,h.size,fun k hk hn=>h.block k hk (by rw [cN];exact hn)⟩
def OldK (W W2:World):Prop := ∀ k,k < W.heap.size -> W2.heap[k]? = W.heap[k]?
theorem aBH (W:World):Holds [] 0 W (fun k=>k < W.heap.size) (OldK W) :=
 ⟨fun _ _=>rfl,fun W1 W2 h1 hk k hl=>(hk k hl).trans (h1 k hl),fun k hk=>hk,fun _ _=>aH _,fun _ _ hm=>by cases hm⟩
theorem OldK.cell {W W2:World} (h:OldK W W2) {b o:Nat} (hb:b < W.heap.size):W2.cell? ⟨b,o,none⟩=W.cell? ⟨b,o,none⟩:=by
 have h1:=h b hb
 unfold World.cell?
 simp only [h1]
theorem uA {f:FuncD} {O:List Nat} (hc:eV f=0) (hO:fT f O) (hall:∀ d,d < f.blocks.length -> Way (toB f) (-1) d):f.params.length+(idsO f O).length <= 4112:=by
 have h1:=(uO hc hO hall).length_eq
 have h2:=nB (eY hc).1
 unfold fC at h2
 rw [aI] at h2
 rw [h1,bI]
 have h3:(parT f.params).length=f.params.length:=by simp [parT]
 omega
theorem vG {f:FuncD} {O:List Nat} {j b:Nat} (hj:O[j]? = some b):idsO f (O.take (j+1))=idsO f (O.take j) ++ jQ (kX f b):=by
 unfold idsO;exact gM _ O j b hj
theorem aBI {f:FuncD} {O:List Nat} {j b:Nat} (hj:O[j]? = some b):∃ post,idsO f O=idsO f (O.take j) ++ jQ (kX f b) ++ post:=by
 refine ⟨idsO f (O.drop (j+1)), ?_⟩
 rw [<-vG hj]
 unfold idsO
 rw [<-List.flatMap_append,dE]
def idP (g:Int -> Int) (p:PhiD):PhiD := { p with id:=g p.id }
def idX (g:Int -> Int) (y:InstrD):InstrD := { y with id:=if 0 <= y.id then g y.id else y.id }
theorem aGA (g:Int -> Int) (O:List Nat) (x:BlockD):idB g O x=⟨x.phis.map (idP g),x.code.map (idX g), { x.term with to:=x.term.to.map (plO O) }⟩:=rfl
def fW (A:List PhiD):List Int:=A.map (·.id)
def fO (C:List InstrD):List Int:=(C.filter fun y=>decide (0 <= y.id)).map (·.id)
theorem sQ (x:BlockD):jQ x=fW x.phis ++ fO x.code:=rfl
theorem aC2 {np:Nat} {pre post B:List Int} {A:List PhiD} {k:Nat} {p:PhiD} (h:Named np (pre ++ (fW A ++ B) ++ post)) (hp:A[k]? = some p) :
  tyOf (fK np (pre ++ fW (A.take k))) p.id=none/\fK np (pre ++ fW (A.take (k+1)))=fK np (pre ++ fW (A.take k)) ++ [(p.id,(((fK np (pre ++ fW (A.take k))).length:Nat):Int))]/\renV np (pre ++ (fW A ++ B) ++ post) p.id=(((fK np (pre ++ fW (A.take k))).length:Nat):Int):=by
 have hA:fW A=fW (A.take k) ++ p.id :: fW (A.drop (k+1)):=by
  unfold fW
  conv=>lhs;rw [<-List.take_append_drop (k+1) A]
  rw [eS _ _ _ hp]
  simp
 have hs:fW (A.take (k+1))=fW (A.take k) ++ [p.id]:=by unfold fW;rw [eS _ _ _ hp];simp
 have hw:pre ++ (fW A ++ B) ++ post=(pre ++ fW (A.take k)) ++ p.id :: (fW (A.drop (k+1)) ++ B ++ post):=by rw [hA];simp
 rw [hw] at h ⊢
 rw [hs, <-List.append_assoc]
 exact pQ h
theorem aBJ {np:Nat} {pre post:List Int} {C:List InstrD} {k:Nat} {y:InstrD} (h:Named np (pre ++ fO C ++ post)) (hy:C[k]? = some y) (h0:0 <= y.id) :
  tyOf (fK np (pre ++ fO (C.take k))) y.id=none/\fK np (pre ++ fO (C.take (k+1)))=fK np (pre ++ fO (C.take k)) ++ [(y.id,(((fK np (pre ++ fO (C.take k))).length:Nat):Int))]/\renV np (pre ++ fO C ++ post) y.id=(((fK np (pre ++ fO (C.take k))).length:Nat):Int):=by
 have hC:fO C=fO (C.take k) ++ y.id :: fO (C.drop (k+1)):=by
  unfold fO
  conv=>lhs;rw [<-List.take_append_drop (k+1) C]
  rw [eS _ _ _ hy]
  simp [dZ,h0]
 have hs:fO (C.take (k+1))=fO (C.take k) ++ [y.id]:=by unfold fO;rw [eS _ _ _ hy];simp [dZ,h0]
 have hw:pre ++ fO C ++ post=(pre ++ fO (C.take k)) ++ y.id :: (fO (C.drop (k+1)) ++ post):=by rw [hC];simp
 rw [hw] at h ⊢
 rw [hs, <-List.append_assoc]
 exact pQ h
theorem aBK {C:List InstrD} {k:Nat} {y:InstrD} (hy:C[k]? = some y) (h0:¬ 0 <= y.id):fO (C.take (k+1))=fO (C.take k):=by
 unfold fO;rw [eS _ _ _ hy];simp [dZ,h0]
theorem yE {α : Type} {g : α -> α} {xs:List α} {i:Nat} {x : α} (h:xs[i]? = some x) (hx:g x=x):gP g xs (i+1)=gP g xs i:=by
 rw [<-hJ h,hx]
 apply bG
 intro q
 rw [cA]
 by_cases e:i=q
 ·subst e
  rw [if_pos rfl,iB,h,if_pos (by rw [fD];exact (aD.1 h).1)]
 rw [if_neg e]
theorem aE7 {f:FuncD} {O:List Nat} {g:Int -> Int} (hf:gW f=true) (hO:∀ d ∈ O,d < f.blocks.length) (hall:∀ d,d < f.blocks.length -> d ∈ O) {x:BlockD} (hx:x ∈ O.map fun b=>mapB g (idB g O (kX f b))) {p:PhiD} (hp:p ∈ x.phis) :
  p.src.Nodup/\p.src.length=p.vals.length /\ ∀ q ∈ p.src,0 <= q/\q.toNat ∈ O/\q.toNat < f.blocks.length:=by
 obtain ⟨b,hb,rfl⟩:=bB.1 hx
 have aa:=hO b hb
 rw [nM (aB aa)] at hp
 unfold mapB idB at hp
 simp only [cO,bB,Function.comp] at hp
 obtain ⟨p0,ab,rfl⟩:=hp
 obtain ⟨h1,h2,h3⟩:=aFF hf (aB aa) ab
 unfold mapP
 refine ⟨h1,by simpa using h2,fun q hq => ?_⟩
 have h4:=h3 q hq
 exact ⟨h4.1,hall _ (by omega),by omega⟩
theorem sR {f:FuncD} {O:List Nat} (hO:fT f O) (hall:∀ d,d < f.blocks.length -> Way (toB f) (-1) d):∀ d,d < f.blocks.length -> d ∈ O:=fun d hd=>(hO.facts.2.1 d).2 (hall d hd)
theorem yF {f:FuncD} {O:List Nat} (g:Int -> Int):(O.map fun b=>mapB g (idB g O (kX f b))).map (tE O)=O.map fun b=>renB g O (kX f b):=by
 rw [cO]
 apply dB
 intro b _
 exact zW g O _
theorem OldK.box {W W2:World} {b:Nat} {A:Array Value} (h:OldK W W2) (hb:Box W b A):Box W2 b A:=by
 have hh:=h b hb.lt
 have hl:b < W2.heap.size:=by
  rw [aY hb.lt] at hh
  exact (aM.1 hh).1
 exact ⟨hl,fun o=>(World.cell?_of_block (w:=W) (a:=⟨b,o,none⟩) hh).trans (hb.cell o),fun o=>(World.frozen?_of_block (w:=W) (a:=⟨b,o,none⟩) hh).trans (hb.free o)⟩
theorem OldK.off {W1 W W' : World} {S:Foot} (h:OldK W1 W) (ho:Off S W W') (hs:∀ k,S k -> W1.heap.size <= k) (hz:W1.heap.size <= W.heap.size):OldK W1 W':=fun k hk=>(ho.block k (by omega) (fun hm=>by have:=hs k hm;omega)).trans (h k hk)
theorem Off.frozenA {S:Foot} {W W' : World} (h:Off S W W') {p:Addr} (hl:p.block < W.heap.size) (hn:¬ S p.block):W'.frozen? p=W.frozen? p:=World.frozen?_of_block (w:=W) (h.block p.block hl hn)
theorem Off.cellA {S:Foot} {W W' : World} (h:Off S W W') {p:Addr} (hl:p.block < W.heap.size) (hn:¬ S p.block):W'.cell? p=W.cell? p:=World.cell?_of_block (w:=W) (h.block p.block hl hn)
theorem vH {O:List Nat} (h:O.Nodup) {i b:Nat} (hi:O[i]? = some b):b ∉ O.take i:=by
 intro hm
 obtain ⟨j,hj⟩:=List.getElem?_of_mem hm
 rw [aW] at hj
 split at hj
 ·obtain ⟨h1,h2⟩:=aD.1 hi
  obtain ⟨h3,h4⟩:=aD.1 hj
  have:=(List.getElem_inj h).1 (h4.trans h2.symm)
  omega
 cases hj
theorem IMap.off {W W' : World} {b:Nat} {m:List (Int × Value)} {S:Foot} (h:IMap W b m) (ho:Off S W W') (hn:¬ S b):IMap W' b m:=h.keep (ho.block b h.lt hn)
theorem aBL (j:Nat):mput (encT (parJ j)) (j:Int) (.int .i64 (j:Int))=encT (parJ (j+1)):=by
 rw [mZ (iI.2 (fun h=>by have:=(oP (np:=j) (v:=(j:Int))).1 h;omega))]
 unfold parJ
 rw [eQ,bD]
 rfl
theorem aBM (np:Nat):fK np []=parJ np:=by unfold fK iD;simp
end Go.Proofs.YtagabiidbbhhmaaGreat
