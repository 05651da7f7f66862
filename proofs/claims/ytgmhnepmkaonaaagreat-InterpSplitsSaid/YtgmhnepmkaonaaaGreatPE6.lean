/- Part 6. -/
import Derived.Test.YtgmhnepmkaonaaaGreatPE3
import Derived.Test.YtgmhnepmkaonaaaGreatPE4
import Derived.Test.YtgmhnepmkaonaaaGreatPE5
namespace Go.Proofs.YtgmhnepmkaonaaaGreat
set_option linter.all false
open Go.RowKit
theorem eW.form {α : Type} {R:World -> List Value -> α -> Prop} {size:Nat} {W:World} {v:Value} {xs:List α} (h:eW R size W v xs):∃ a c,v = .slice a xs.length c:=by
 obtain ⟨cs,h1,_⟩:=h
 obtain ⟨a,c,hv,_⟩:=h1.is
 exact ⟨a,c,hv⟩
structure BlockC (W:World) (b o:Nat) (x:BlockD) (ap ai at_:Option Addr) (cp ci ct:Nat):Prop where
 c0:W.cell? ⟨b,o,none⟩=some (.slice ap x.phis.length cp)
 c1:W.cell? ⟨b,o+1,none⟩=some (.slice ai x.code.length ci)
 c2:W.cell? ⟨b,o+2,none⟩=some (.int .i64 x.term.op)
 c3:W.cell? ⟨b,o+3,none⟩=some (.int .i64 x.term.val)
 c4:W.cell? ⟨b,o+4,none⟩=some (.slice at_ x.term.to.length ct)
 c5:W.cell? ⟨b,o+5,none⟩=some (.int .i64 x.term.n)
 phis:eW PhiR 4 W (.slice ap x.phis.length cp) x.phis
 code:eW jH 4 W (.slice ai x.code.length ci) x.code
 to:Ints W (.slice at_ x.term.to.length ct) x.term.to
 op64:In64 x.term.op
 val64:In64 x.term.val
 n64:In64 x.term.n
structure PhiC (W:World) (b o:Nat) (x:PhiD) (af av:Option Addr) (cf cv:Nat):Prop where
 c0:W.cell? ⟨b,o,none⟩=some (.int .i64 x.id)
 c1:W.cell? ⟨b,o+1,none⟩=some (.int .i64 x.typ)
 c2:W.cell? ⟨b,o+2,none⟩=some (.slice af x.src.length cf)
 c3:W.cell? ⟨b,o+3,none⟩=some (.slice av x.vals.length cv)
 src:Ints W (.slice af x.src.length cf) x.src
 vals:Ints W (.slice av x.vals.length cv) x.vals
 id64:In64 x.id
 typ64:In64 x.typ
structure InstrC (W:World) (b o:Nat) (x:InstrD) (aa:Option Addr) (ca:Nat):Prop where
 c0:W.cell? ⟨b,o,none⟩=some (.int .i64 x.op)
 c1:W.cell? ⟨b,o+1,none⟩=some (.int .i64 x.id)
 c2:W.cell? ⟨b,o+2,none⟩=some (.slice aa x.args.length ca)
 c3:W.cell? ⟨b,o+3,none⟩=some (.int .i64 x.n)
 args:Ints W (.slice aa x.args.length ca) x.args
 op64:In64 x.op
 id64:In64 x.id
 n64:In64 x.n
theorem BlockC.below {W W' : World} {b o:Nat} {x:BlockD} {ap ai at_:Option Addr} {cp ci ct:Nat} (h:BlockC W b o x ap ai at_ cp ci ct) (hb:Below W.heap.size W W') (hl:b < W.heap.size):BlockC W' b o x ap ai at_ cp ci ct :=
 ⟨(hb.cell hl).trans h.c0,(hb.cell hl).trans h.c1,(hb.cell hl).trans h.c2,(hb.cell hl).trans h.c3,(hb.cell hl).trans h.c4,(hb.cell hl).trans h.c5,h.phis.below PhiR.lasting hb,h.code.below jH.lasting hb,h.to.below hb,h.op64,h.val64,h.n64⟩
theorem PhiC.below {W W' : World} {b o:Nat} {x:PhiD} {af av:Option Addr} {cf cv:Nat} (h:PhiC W b o x af av cf cv) (hb:Below W.heap.size W W') (hl:b < W.heap.size):PhiC W' b o x af av cf cv :=
 ⟨(hb.cell hl).trans h.c0,(hb.cell hl).trans h.c1,(hb.cell hl).trans h.c2,(hb.cell hl).trans h.c3,h.src.below hb,h.vals.below hb,h.id64,h.typ64⟩
theorem InstrC.below {W W' : World} {b o:Nat} {x:InstrD} {aa:Option Addr} {ca:Nat} (h:InstrC W b o x aa ca) (hb:Below W.heap.size W W') (hl:b < W.heap.size):InstrC W' b o x aa ca :=
 ⟨(hb.cell hl).trans h.c0,(hb.cell hl).trans h.c1,(hb.cell hl).trans h.c2,(hb.cell hl).trans h.c3,h.args.below hb,h.op64,h.id64,h.n64⟩
theorem fA {W:World} {v:Value} {bs:List BlockD} (h:eW gP 6 W v bs):∃ a cap b off,v = .slice a bs.length cap/\bs.length <= cap/\cap <= 9223372036854775807/\bs.length <= 17592186044416/\(0 < bs.length -> a=some ⟨b,off,none⟩/\b < W.heap.size) /\
  ∀ j x,bs[j]? = some x -> ∃ ap ai at_ cp ci ct,BlockC W b (off+j * 6) x ap ai at_ cp ci ct:=by
 obtain ⟨a,cap,b,off,hv,h1,h2,h3,h4,h5⟩:=h.parts (by omega)
 refine ⟨a,cap,b,off,hv,h1,h2,h3,h4,fun j x hj => ?_⟩
 obtain ⟨ds,⟨u,c,t,rfl,hp,hc,w,rfl,ht,q1,q2,q3⟩,_,hcell⟩:=h5 j x hj
 obtain ⟨ap,cp,rfl⟩:=hp.form
 obtain ⟨ai,ci,rfl⟩:=hc.form
 obtain ⟨at_,ct,rfl⟩:=ht.form
 exact ⟨ap,ai,at_,cp,ci,ct,hcell 0 _ rfl,hcell 1 _ rfl,hcell 2 _ rfl,hcell 3 _ rfl,hcell 4 _ rfl,hcell 5 _ rfl,hp,hc,ht,q1,q2,q3⟩
theorem f9 {W:World} {v:Value} {ps:List PhiD} (h:eW PhiR 4 W v ps):∃ a cap b off,v = .slice a ps.length cap/\ps.length <= cap/\cap <= 9223372036854775807/\ps.length <= 17592186044416/\(0 < ps.length -> a=some ⟨b,off,none⟩/\b < W.heap.size) /\
  ∀ j x,ps[j]? = some x -> ∃ af av cf cv,PhiC W b (off+j * 4) x af av cf cv:=by
 obtain ⟨a,cap,b,off,hv,h1,h2,h3,h4,h5⟩:=h.parts (by omega)
 refine ⟨a,cap,b,off,hv,h1,h2,h3,h4,fun j x hj => ?_⟩
 obtain ⟨ds,⟨u,c,rfl,hp,hc,q1,q2⟩,_,hcell⟩:=h5 j x hj
 obtain ⟨af,cf,rfl⟩:=hp.form
 obtain ⟨av,cv,rfl⟩:=hc.form
 exact ⟨af,av,cf,cv,hcell 0 _ rfl,hcell 1 _ rfl,hcell 2 _ rfl,hcell 3 _ rfl,hp,hc,q1,q2⟩
theorem gR {W:World} {v:Value} {xs:List InstrD} (h:eW jH 4 W v xs):∃ a cap b off,v = .slice a xs.length cap/\xs.length <= cap/\cap <= 9223372036854775807/\xs.length <= 17592186044416/\(0 < xs.length -> a=some ⟨b,off,none⟩/\b < W.heap.size) /\
  ∀ j x,xs[j]? = some x -> ∃ aa ca,InstrC W b (off+j * 4) x aa ca:=by
 obtain ⟨a,cap,b,off,hv,h1,h2,h3,h4,h5⟩:=h.parts (by omega)
 refine ⟨a,cap,b,off,hv,h1,h2,h3,h4,fun j x hj => ?_⟩
 obtain ⟨ds,⟨u,rfl,hp,q1,q2,q3⟩,_,hcell⟩:=h5 j x hj
 obtain ⟨aa,ca,rfl⟩:=hp.form
 exact ⟨aa,ca,hcell 0 _ rfl,hcell 1 _ rfl,hcell 2 _ rfl,hcell 3 _ rfl,hp,q1,q2,q3⟩
def phiA (x:PhiD) (af av:Option Addr) (cf cv:Nat):Array Value:=#[.int .i64 x.id,.int .i64 x.typ,.slice af x.src.length cf,.slice av x.vals.length cv]
def vP (x:InstrD) (aa:Option Addr) (ca:Nat):Array Value:=#[.int .i64 x.op,.int .i64 x.id,.slice aa x.args.length ca,.int .i64 x.n]
def aD1 (x:TermD) (at_:Option Addr) (ct:Nat):Array Value:=#[.int .i64 x.op,.int .i64 x.val,.slice at_ x.to.length ct,.int .i64 x.n]
def encT (T:List (Int × Int)):List (Int × Value):=T.map fun p=>(p.1,.int .i64 p.2)
def tyOf (T:List (Int × Int)) (id:Int):Option Int:=(T.find? fun p=>p.1 == id).map (·.2)
theorem rM (T:List (Int × Int)) (id:Int):mget (encT T) id=(tyOf T id).map (Value.int .i64):=by
 unfold mget tyOf encT
 induction T with
 | nil=>rfl
 | cons p T ih =>
  simp only [cQ,List.find?_cons]
  cases h:p.1 == id
  ·simpa using ih
  rfl
theorem kN {T:List (Int × Int)} {id:Int}:tyOf T id=none ↔ id ∉ T.map (·.1):=by
 unfold tyOf
 rw [Option.map_eq_none_iff,List.find?_eq_none]
 simp only [aZ,not_exists,not_and]
 constructor
 ·intro h p hp e;exact h p hp (by simp [e])
 intro h p hp e;exact h p hp (by simpa using e)
theorem vQ {T:List (Int × Int)} {id t:Int} (h:tyOf T id=some t):(id,t) ∈ T:=by
 unfold tyOf at h
 cases hf:T.find? (fun p=>p.1 == id) with
 | none=>rw [hf] at h;cases h
 | some p =>
  rw [hf] at h
  simp at h
  have h1:=dM hf
  have h2:=List.find?_some hf
  simp at h2
  rw [<-h, <-h2];exact h1
theorem vR {T:List (Int × Int)} {id t:Int} (h:tyOf T id=none):mput (encT T) id (.int .i64 t)=encT (T ++ [(id,t)]):=by
 unfold mput
 rw [rM,h]
 simp [encT]
def jI (np:Nat) (T:List (Int × Int)) (id t:Int):Option (List (Int × Int)):=if !(tyOf T id).isSome && !decide (id < np) && decide (id < 1048576) then some (T ++ [(id,t)]) else none
theorem aCA (np:Nat) (T:List (Int × Int)) (id t:Int):fresh np (encT T) id=(jI np T id t).isSome:=by
 unfold fresh jI
 rw [rM,Option.isSome_map]
 split <;> rename_i h
 ·rw [h];rfl
 simpa using h
def numB (nb:Nat) (b:Int):Bool:=decide (0 <= b) && decide (b < nb)
def iH (nb:Nat) (p:PhiD):Bool:=(p.typ == 1 || p.typ == 2) && (p.src.length == p.vals.length) && p.src.all (numB nb) && decide p.src.Nodup
def topN (ar ce k:Int):Option Int:=if k=0 then some 0 else if k=2 then some 1 else if k=3 then some (ar - 1) else if k=4 then some (ce - 1) else none
def nOk (ar ce k n:Int):Bool:=match topN ar ce k with | none=>true | some l=>decide (0 <= n) && decide (n <= l)
def fZ (ar ce:Int) (x:InstrD):Bool:=(shp x.op).isSome && (x.args.length == (shp0 x.op).args.length) && nOk ar ce (shp0 x.op).n x.n && ((shp0 x.op).result != 0 || x.id == -1)
def gH (nb:Nat) (t:TermD):Bool :=
 t.to.all (fun b=>decide (1 <= b) && decide (b < (nb:Int))) &&
  ((t.op == 1 && (t.to.length == 1) && t.val == -1 && t.n == 0) || (t.op == 2 && (t.to.length == 2) && t.n == 0) || (t.op == 3 && (t.to.length == 0) && t.n == 0) || (t.op == 4 && (t.to.length == 0) && t.val == -1 && decide (0 <= t.n)))
def phiM (np nb:Nat) (T:List (Int × Int)) (p:PhiD):Option (List (Int × Int)):=if iH nb p then jI np T p.id p.typ else none
def jZ (np:Nat) (ar ce:Int) (T:List (Int × Int)) (x:InstrD):Option (List (Int × Int)):=if fZ ar ce x then (if (shp0 x.op).result=0 then some T else jI np T x.id (shp0 x.op).result) else none
def jJ (np nb:Nat) (ar ce:Int) (T:List (Int × Int)) (ib:BlockD × Nat):Option (List (Int × Int)) :=
 if ib.2=0/\0 < ib.1.phis.length then none else
  (ib.1.phis.foldlM (phiM np nb) T).bind fun T=>(ib.1.code.foldlM (jZ np ar ce) T).bind fun T=>if gH nb ib.1.term then some T else none
def gD (b:BlockD):Int:=b.phis.length+b.code.length+1
def jF (f:FuncD):Int:=(f.blocks.map gD).sum
def iU (f:FuncD):Bool :=
 decide (f.params.length <= 16) && decide (0 <= f.arrays) && decide (f.arrays <= 8) && decide (0 <= f.cells) && decide (f.cells <= 64) && decide (1 <= f.blocks.length) && decide (f.blocks.length <= 512) && decide (jF f <= 4096)
def kB (t:Int):Bool:=t == 1 || t == 2
def parT (ps:List Int):List (Int × Int):=ps.zipIdx.map fun p=>((p.2:Int),p.1)
def s6 (f:FuncD):Option (List (Int × Int)) :=
 if iU f && f.params.all kB then f.blocks.zipIdx.foldlM (jJ f.params.length f.blocks.length f.arrays f.cells) (parT f.params) else none
def iI (b:BlockD):List (Int × Int):=b.phis.map (fun p=>(p.id,p.typ)) ++ (b.code.filter fun x=>(shp0 x.op).result != 0).map fun x=>(x.id,(shp0 x.op).result)
def m8 (f:FuncD):List (Int × Int):=f.blocks.flatMap iI
def eY (f:FuncD):List (Int × Int):=parT f.params ++ m8 f
def fU (nb:Nat) (ar ce:Int) (ib:BlockD × Nat):Bool := !(decide (ib.2=0) && decide (0 < ib.1.phis.length)) && ib.1.phis.all (iH nb) && ib.1.code.all (fZ ar ce) && gH nb ib.1.term
def gJ (f:FuncD):Bool:=iU f && f.params.all kB && f.blocks.zipIdx.all (fU f.blocks.length f.arrays f.cells)
def idsB (np:Nat) (T l:List (Int × Int)):Bool:=decide ((T ++ l).map (·.1)).Nodup && l.all fun p => !decide (p.1 < np) && decide (p.1 < 1048576)
def idsF (f:FuncD):Bool:=idsB f.params.length (parT f.params) (m8 f)
theorem yU {α β : Type} (g : β -> α -> Option β) (l:List α) (s : β) (j:Nat) (x : α) (h:l[j]? = some x):(l.take (j+1)).foldlM g s=((l.take j).foldlM g s).bind fun t=>g t x:=by
 rw [cA,h,eB,List.foldlM_append]
 cases (l.take j).foldlM g s with
 | none=>rfl
 | some t=>simp only [Option.bind_eq_bind,dW,List.foldlM_cons,List.foldlM_nil];cases g t x <;> rfl
theorem nT {α β : Type} (g : β -> α -> Option β) (l:List α) (s : β) (j:Nat) (h:(l.take j).foldlM g s=none):l.foldlM g s=none:=by
 have:=dG j l
 rw [<-this,List.foldlM_append,h];rfl
theorem qJ (np:Nat) (T:List (Int × Int)) (id t:Int) (hT:(T.map (·.1)).Nodup):jI np T id t=if idsB np T [(id,t)] then some (T ++ [(id,t)]) else none:=by
 have h:(!(tyOf T id).isSome && !decide (id < np) && decide (id < 1048576))=idsB np T [(id,t)]:=by
  have h1:(!(tyOf T id).isSome)=decide ((T ++ [(id,t)]).map (·.1)).Nodup:=by
   rw [bZ]
   simp only [Bool.not_eq_true',Option.isSome_eq_false_iff,Option.isNone_iff_eq_none,kN,decide_eq_true_eq,bF,cQ,eD,cI,eT,eA,not_false_eq_true,List.nodup_nil,and_true,cL]
   constructor
   ·intro h;exact ⟨hT,trivial,fun a ha b hb e=>h (by rw [<-hb, <-e];exact ha)⟩
   intro h hm;exact h.2.2 id hm id rfl rfl
  unfold idsB
  rw [h1]
  simp [Bool.and_assoc]
 unfold jI
 rw [h]
theorem pK (np:Nat) (T l m:List (Int × Int)):idsB np T (l ++ m)=(idsB np T l && idsB np (T ++ l) m):=by
 unfold idsB
 rw [bZ]
 simp only [aI,decide_eq_true_eq,dH, <-List.append_assoc]
 constructor
 ·rintro ⟨h1,h2,h3⟩
  exact ⟨⟨by rw [bF] at h1;exact (cI.1 h1).1,h2⟩,h1,h3⟩
 rintro ⟨⟨_,h2⟩,h1,h3⟩
 exact ⟨h1,h2,h3⟩
theorem nU {np:Nat} {T l:List (Int × Int)} (h:idsB np T l=true):((T ++ l).map (·.1)).Nodup:=by
 unfold idsB at h
 simp only [aI,decide_eq_true_eq] at h
 exact h.1
theorem nV {α : Type} (np:Nat) (g:List (Int × Int) -> α -> Option (List (Int × Int))) (ok : α -> Bool) (ds : α -> List (Int × Int))
  (hg:∀ T x,(T.map (·.1)).Nodup -> g T x=if ok x && idsB np T (ds x) then some (T ++ ds x) else none) (l:List α):∀ T:List (Int × Int),(T.map (·.1)).Nodup ->
  l.foldlM g T=if l.all ok && idsB np T (l.flatMap ds) then some (T ++ l.flatMap ds) else none:=by
 induction l with
 | nil=>intro T hT;simp [idsB,hT]
 | cons x l ih =>
  intro T hT
  rw [List.foldlM_cons,hg T x hT]
  simp only [List.all_cons,cK,pK]
  cases h1:ok x
  ·simp
  cases h2:idsB np T (ds x)
  ·simp
  simp only [cY,if_true]
  show (l.foldlM g (T ++ ds x))=_
  rw [ih _ (nU h2),bV]
theorem aCB (np nb:Nat) (T:List (Int × Int)) (p:PhiD) (hT:(T.map (·.1)).Nodup):phiM np nb T p=if iH nb p && idsB np T [(p.id,p.typ)] then some (T ++ [(p.id,p.typ)]) else none:=by
 unfold phiM
 rw [qJ _ _ _ _ hT]
 cases iH nb p <;> simp
def defI (x:InstrD):List (Int × Int):=if (shp0 x.op).result=0 then [] else [(x.id,(shp0 x.op).result)]
theorem uN (np:Nat) (ar ce:Int) (T:List (Int × Int)) (x:InstrD) (hT:(T.map (·.1)).Nodup):jZ np ar ce T x=if fZ ar ce x && idsB np T (defI x) then some (T ++ defI x) else none:=by
 unfold jZ defI
 cases fZ ar ce x
 ·simp
 by_cases h:(shp0 x.op).result=0
 ·simp [h,idsB,hT]
 simp only [if_true,if_neg h,cY];rw [qJ _ _ _ _ hT]
theorem s7 (l:List PhiD):l.flatMap (fun p=>[(p.id,p.typ)])=l.map (fun p=>(p.id,p.typ)):=vI _ _
theorem s8 (l:List InstrD):l.flatMap defI=(l.filter fun x=>(shp0 x.op).result != 0).map fun x=>(x.id,(shp0 x.op).result):=by
 induction l with
 | nil=>rfl
 | cons x l ih =>
  rw [cK,ih,List.filter_cons]
  unfold defI
  by_cases h:(shp0 x.op).result=0 <;> simp [h]
theorem uO (np nb:Nat) (ar ce:Int) (T:List (Int × Int)) (ib:BlockD × Nat) (hT:(T.map (·.1)).Nodup) :
  jJ np nb ar ce T ib=if fU nb ar ce ib && idsB np T (iI ib.1) then some (T ++ iI ib.1) else none:=by
 unfold jJ fU iI
 by_cases h0:ib.2=0/\0 < ib.1.phis.length
 ·simp [h0]
 ·rw [if_neg h0]
  have h0' : (!(decide (ib.2=0) && decide (0 < ib.1.phis.length)))=true:=by
   rw [<-Bool.decide_and,decide_eq_false h0];rfl
  rw [h0',nV np _ (iH nb) (fun p=>[(p.id,p.typ)]) (fun T x hT=>aCB np nb T x hT) _ _ hT,pK,s7, <-s8]
  simp only [cY]
  cases h1:ib.1.phis.all (iH nb)
  ·simp
  cases h2:idsB np T (ib.1.phis.map fun p=>(p.id,p.typ))
  ·simp
  simp only [cY,if_true,dW]
  rw [nV np _ (fZ ar ce) defI (fun T x hT=>uN np ar ce T x hT) _ _ (nU h2)]
  cases h3:ib.1.code.all (fZ ar ce)
  ·simp
  cases h4:idsB np (T ++ ib.1.phis.map fun p=>(p.id,p.typ)) (ib.1.code.flatMap defI)
  ·simp
  simp [bV]
theorem nA (ps:List Int):(parT ps).map (·.1)=(List.range ps.length).map fun i:Nat=>(i:Int):=by
 unfold parT
 rw [cX]
 apply bJ
 intro i
 simp [cV,eQ]
 by_cases h:i < ps.length <;> simp [h]
theorem yV (ps:List Int):((parT ps).map (·.1)).Nodup:=by
 rw [nA,eI,List.pairwise_map]
 exact List.nodup_range.imp fun h e=>h (by omega)
theorem aD2 (f:FuncD):f.blocks.zipIdx.flatMap (fun ib=>iI ib.1)=m8 f:=by
 unfold m8
 have:f.blocks.zipIdx.flatMap (fun ib=>iI ib.1)=(f.blocks.zipIdx.map (·.1)).flatMap iI:=by rw [List.flatMap_map]
 rw [this,List.zipIdx_map_fst]
theorem aD3 (f:FuncD):s6 f=if gJ f && idsF f then some (eY f) else none:=by
 unfold s6 gJ idsF eY
 cases h:(iU f && f.params.all kB)
 ·simp
 simp only [if_true,cY]
 rw [nV f.params.length _ (fU f.blocks.length f.arrays f.cells) (fun ib=>iI ib.1) (fun T x hT=>uO _ _ _ _ T x hT) _ _ (yV _),aD2]
def mM (p:PhiD):List (Int × Int):=p.vals.map fun v=>(v,p.typ)
def pT (x:InstrD):List (Int × Int):=x.args.zip (shp0 x.op).args
def nW (t:TermD):List (Int × Int):=if t.op=2 then [(t.val,2)] else if t.op=3 then [(t.val,0)] else []
def l9 (b:BlockD):List (Int × Int):=b.phis.flatMap mM ++ b.code.flatMap pT ++ nW b.term
def kC (f:FuncD):List (Int × Int):=f.blocks.flatMap l9
def useE (T:List (Int × Int)) (e:Int) (u:Int × Int):Int:=match tyOf T u.1 with
 | none=>6
 | some t=>if u.2 ≠ 0/\t ≠ u.2/\e=0 then 3 else e
def lA (T:List (Int × Int)) (u:Int × Int):Bool:=match tyOf T u.1 with | none=>false | some t=>u.2 != 0 && t != u.2
def kD (T us:List (Int × Int)):Int:=if us.any (fun u => !(tyOf T u.1).isSome) then 6 else if us.any (lA T) then 3 else 0
theorem yW (T us:List (Int × Int)) (u:Int × Int):kD T (us ++ [u])=useE T (kD T us) u:=by
 unfold kD useE lA
 simp only [List.any_append,List.any_cons,List.any_nil,Bool.or_false]
 cases h:tyOf T u.1 with
 | none=>simp
 | some t =>
  simp only [Option.isSome_some,Bool.not_true,Bool.or_false]
  cases h1:us.any (fun u => !(tyOf T u.1).isSome)
  ·cases h2:us.any (fun u=>match tyOf T u.1 with | none=>false | some t=>u.2 != 0 && t != u.2)
   ·by_cases h3:u.2=0 <;> by_cases h4:t=u.2 <;> simp [h3,h4]
   simp
  simp
def d7 (f:FuncD):Int:=if gJ f && idsF f then kD (eY f) (kC f) else 2
def lP (b:Bool):Int:=if b then 1 else 0
def shnI (b:Int):Nat:=(b % 64).toNat
def iV (op a b:Int):Int :=
 if op=3 then IntKind.i64.wrap (a+b) else if op=4 then IntKind.i64.wrap (a - b) else if op=5 then IntKind.i64.wrap (a * b)
 else if op=6 then bits .and .i64 a b else if op=7 then bits .or .i64 a b else if op=8 then bits .xor .i64 a b
 else if op=9 then IntKind.i64.wrap (a * 2 ^ shnI b) else if op=10 then IntKind.i64.wrap (IntKind.u64.wrap a / 2 ^ shnI b)
 else if op=11 then IntKind.i64.wrap (a.tdiv b) else if op=12 then a.tmod b
 else if op=13 then lP (a == b) else if op=14 then lP (decide (a < b)) else lP (decide (IntKind.u64.wrap a < IntKind.u64.wrap b))
def oD (op:Int):Nat:=if op=16 then 1 else if op=17 then 3 else 2
def mA (op:Int) (a:List Int):Int :=
 if op < 3 \/ 17 < op \/ a.length ≠ oD op then 0
 else if op=16 then lP (a.getD 0 0 == 0) else if op=17 then (if a.getD 0 0 ≠ 0 then a.getD 1 0 else a.getD 2 0)
 else if (op=11 \/ op=12)/\a.getD 1 0=0 then 0 else iV op (a.getD 0 0) (a.getD 1 0)
def nB (op:Int) (a:List Int):Int :=
 if op < 3 \/ 17 < op \/ a.length ≠ oD op then 1
 else if op=16 then 0 else if op=17 then 0
 else if (op=11 \/ op=12)/\a.getD 1 0=0 then 9 else 0
structure RunS where
 vals:Int -> Int
 cells:List Int
 arrays:List (List Int)
 out:List Int
 steps:Nat
 checks:Nat
 visits:List Nat
structure OverD where
 how:Int
 value:Int
 trap:Int
inductive Res (α : Type) where
 | go (a : α) (s:RunS)
 | over (o:OverD) (s:RunS)
def Res.bind {α β : Type} (r:Res α) (k : α -> RunS -> Res β):Res β := match r with | .go a s=>k a s | .over o s=>.over o s
def Res.st {α : Type}:Res α -> RunS | .go _ s=>s | .over _ s=>s
def setV (s:RunS) (id v:Int):RunS := { s with vals:=fun i=>if i=id then v else s.vals i }
def gK (fuel:Nat) (s:RunS):Res Unit:=if s.steps=fuel then .over ⟨3,0,0⟩ s else .go () { s with steps:=s.steps+1 }
def fW (op:Int) (s:RunS):RunS:=if op=19 \/ op=20 then { s with checks:=s.checks+1 } else s
def pL (op:Int):OverD:=if op=19 \/ op=20 then ⟨2,0, -2⟩ else ⟨5,0,0⟩
def j0 (op:Int) (n i:Int) (s:RunS):Res Unit:=if i < 0 \/ ((s.arrays.getD n.toNat []).length:Int) <= i then .over (pL op) (fW op s) else .go () (fW op s)
def fE (x:InstrD) (s:RunS):Res Int :=
 if x.op=1 \/ x.op=2 then .go x.n s
 else if x.op=18 then .go ((s.arrays.getD x.n.toNat []).length) s
 else if x.op=19 \/ x.op=21 then (j0 x.op x.n ((x.args.map s.vals).getD 0 0) s).bind fun _ s1=>.go ((s1.arrays.getD x.n.toNat []).getD ((x.args.map s.vals).getD 0 0).toNat 0) s1
 else if x.op=20 \/ x.op=22 then (j0 x.op x.n ((x.args.map s.vals).getD 0 0) s).bind fun _ s1=>.go 0 { s1 with arrays:=s1.arrays.modify x.n.toNat fun a=>a.set ((x.args.map s.vals).getD 0 0).toNat ((x.args.map s.vals).getD 1 0) }
 else if x.op=23 then (if s.out.length=4096 then .over ⟨4,0,0⟩ s else .go 0 { s with out:=s.out ++ [(x.args.map s.vals).getD 0 0] })
 else if x.op=24 then .go (s.cells.getD x.n.toNat 0) s
 else if x.op=25 then .go 0 { s with cells:=s.cells.set x.n.toNat ((x.args.map s.vals).getD 0 0) }
 else if nB x.op (x.args.map s.vals) ≠ 0 then .over ⟨2,0, -1⟩ s else .go (mA x.op (x.args.map s.vals)) s
def putS (x:InstrD) (v:Int) (s:RunS):RunS:=if 0 <= x.id then setV s x.id v else s
def oneS (fuel:Nat) (x:InstrD) (s:RunS):Res Unit:=(gK fuel s).bind fun _ s1=>(fE x s1).bind fun v s2=>.go () (putS x v s2)
def gW (fuel:Nat):List InstrD -> RunS -> Res Unit
 | [],s=>.go () s
 | x :: xs,s=>(oneS fuel x s).bind fun _ s1=>gW fuel xs s1
theorem oA (fuel:Nat) (xs ys:List InstrD) (s:RunS):gW fuel (xs ++ ys) s=(gW fuel xs s).bind fun _ s1=>gW fuel ys s1:=by
 induction xs generalizing s with
 | nil=>rfl
 | cons x xs ih =>
  simp only [List.cons_append,gW]
  cases oneS fuel x s with
  | go a s1=>exact ih s1
  | over o s1=>rfl
theorem yX {fuel:Nat} {xs:List InstrD} {i:Nat} {x:InstrD} {s s1:RunS} (hx:xs[i]? = some x) (h:gW fuel (xs.take i) s = .go () s1):gW fuel (xs.take (i+1)) s=oneS fuel x s1:=by
 rw [cA,hx,eB,oA,h]
 show (gW fuel [x] s1)=_
 simp only [gW]
 cases oneS fuel x s1 <;> rfl
theorem qK {fuel:Nat} {xs:List InstrD} {i:Nat} {s s1:RunS} {o:OverD} (h:gW fuel (xs.take i) s = .over o s1):gW fuel xs s = .over o s1:=by
 have:=oA fuel (xs.take i) (xs.drop i) s
 rw [dG,h] at this
 exact this
def phiV (src:Int) (s:RunS) (p:PhiD):Int:=s.vals (p.vals.getD (p.src.idxOf src) 0)
def kZ (s:RunS) (pv:List (PhiD × Int)):RunS:=pv.foldl (fun s q=>setV s q.1.id q.2) s
def kO (b:BlockD) (src:Int) (s:RunS):RunS:=kZ s (b.phis.map fun p=>(p,phiV src s p))
def endR (t:TermD) (s:RunS):Res Int :=
 if t.op=3 then .over ⟨1,s.vals t.val,0⟩ s
 else if t.op=4 then .over ⟨2,0,t.n⟩ s
 else if t.op=2 then .go (t.to.getD (1 - s.vals t.val).toNat 0) s
 else .go (t.to.getD 0 0) s
def f6 (at_:Nat) (s:RunS):RunS := { s with visits:=s.visits.modify at_ (· + 1) }
def fY (f:FuncD) (fuel:Nat) (src:Int) (at_:Nat) (s:RunS):Res Int :=
 (gW fuel (f.blocks.getD at_ default).code (kO (f.blocks.getD at_ default) src (f6 at_ s))).bind fun _ s1=>(gK fuel s1).bind fun _ s2=>endR (f.blocks.getD at_ default).term s2
def runN (f:FuncD) (fuel:Nat):Nat -> Int -> Nat -> RunS -> Option (OverD × RunS)
 | 0,_,_,_=>none
 | n+1,src,at_,s=>match fY f fuel src at_ s with
  | .over o s1=>some (o,s1)
  | .go to s1=>runN f fuel n at_ to.toNat s1
theorem pM {f:FuncD} {fuel:Nat}:∀ {n m:Nat} {src:Int} {at_:Nat} {s:RunS} {r:OverD × RunS},runN f fuel n src at_ s=some r -> n <= m -> runN f fuel m src at_ s=some r
 | 0,_,_,_,_,_,h,_=>by simp [runN] at h
 | n+1,0,_,_,_,_,_,hm=>absurd hm (by omega)
 | n+1,m+1,src,at_,s,r,h,hm=>by
  unfold runN at h ⊢
  cases hb:fY f fuel src at_ s with
  | over o s1=>rw [hb] at h;exact h
  | go to s1=>rw [hb] at h;exact pM h (by omega)
def Runs (f:FuncD) (fuel:Nat) (src:Int) (at_:Nat) (s:RunS) (o:OverD) (s' : RunS):Prop := ∃ n,runN f fuel n src at_ s=some (o,s')
theorem Runs.one {f:FuncD} {fuel:Nat} {src:Int} {at_:Nat} {s s1 s2:RunS} {o o2:OverD} (h:Runs f fuel src at_ s o s1) (k:Runs f fuel src at_ s o2 s2):o=o2/\s1=s2:=by
 obtain ⟨n,h⟩:=h
 obtain ⟨m,k⟩:=k
 have h1:=pM h (Nat.le_max_left n m)
 have k1:=pM k (Nat.le_max_right n m)
 rw [h1] at k1
 injection k1 with e
 exact ⟨congrArg Prod.fst e,congrArg Prod.snd e⟩
theorem Runs.over {f:FuncD} {fuel:Nat} {src:Int} {at_:Nat} {s s1:RunS} {o:OverD} (h:fY f fuel src at_ s = .over o s1):Runs f fuel src at_ s o s1:=⟨1,by unfold runN;rw [h]⟩
theorem Runs.go {f:FuncD} {fuel:Nat} {src to:Int} {at_:Nat} {s s1 s2:RunS} {o:OverD} (h:fY f fuel src at_ s = .go to s1) (k:Runs f fuel at_ to.toNat s1 o s2):Runs f fuel src at_ s o s2:=by
 obtain ⟨n,k⟩:=k
 exact ⟨n+1,by unfold runN;rw [h];exact k⟩
structure InputD where
 args:List Int
 arrays:List (List Int)
def argI (f:FuncD) (args:List Int) (id:Int):Int :=
 if 0 <= id/\id < f.params.length/\id < args.length then (if f.params.getD id.toNat 0=2 then lP (decide (args.getD id.toNat 0 ≠ 0)) else args.getD id.toNat 0) else 0
def lQ (f:FuncD) (i:InputD):RunS :=
 { vals:=argI f i.args,cells:=List.replicate f.cells.toNat 0,arrays:=(List.range f.arrays.toNat).map fun k=>(i.arrays.getD k []).take 4096,out:=[],steps:=0,checks:=0,visits:=List.replicate f.blocks.length 0 }
structure TraceD where
 how:Int
 value:Int
 trap:Int
 out:List Int
 arrays:List (List Int)
 steps:Int
 checks:Int
 visits:List Int
 deriving DecidableEq,Inhabited
def rN:TraceD:=⟨6,0,0,[],[],0,0,[]⟩
def aCC (o:OverD) (s:RunS):TraceD:=⟨o.how,o.value,o.trap,s.out,s.arrays,s.steps,s.checks,s.visits.map fun n:Nat=>(n:Int)⟩
def Ext (s s' : RunS):Prop:=s.steps <= s'.steps/\(∃ l,s'.out=s.out ++ l)/\s.checks <= s'.checks
theorem Ext.refl (s:RunS):Ext s s:=⟨aB _,⟨[],by simp⟩,aB _⟩
theorem Ext.trans {a b c:RunS} (h:Ext a b) (k:Ext b c):Ext a c:=by
 obtain ⟨h1,⟨l,h2⟩,h3⟩:=h
 obtain ⟨k1,⟨m,k2⟩,k3⟩:=k
 exact ⟨aP h1 k1,⟨l ++ m,by rw [k2,h2,bV]⟩,aP h3 k3⟩
def aCD (s:RunS) (r:Res Int):Prop:=Ext s r.st/\r.st.steps=s.steps /\ ∀ o s',r = .over o s' -> o.how ≠ 3
theorem aCD.go {s s' : RunS} {v:Int} (h:Ext s s') (hs:s'.steps=s.steps):aCD s (.go v s'):=⟨h,hs,fun o s' e=>by cases e⟩
theorem aCD.over {s s' : RunS} {o:OverD} (h:Ext s s') (hs:s'.steps=s.steps) (ho:o.how ≠ 3):aCD s (.over o s'):=⟨h,hs,fun o s' e=>by cases e;exact ho⟩
theorem aCE (op:Int) (s:RunS):Ext s (fW op s)/\(fW op s).steps=s.steps:=by
 unfold fW
 split
 ·exact ⟨⟨aB _,⟨[],by simp⟩,Nat.le_succ _⟩,rfl⟩
 exact ⟨Ext.refl s,rfl⟩
theorem s9 (op:Int):(pL op).how ≠ 3:=by
 unfold pL
 split
 ·show (2:Int) ≠ 3;omega
 show (5:Int) ≠ 3;omega
theorem jN (op n i:Int) (s:RunS):j0 op n i s = .over (pL op) (fW op s) \/ j0 op n i s = .go () (fW op s):=by
 unfold j0
 split
 ·exact .inl rfl
 exact .inr rfl
theorem tA (x:InstrD) (s:RunS):aCD s (fE x s):=by
 have hl:=aCE x.op s
 unfold fE
 split
 ·exact .go (Ext.refl s) rfl
 split
 ·exact .go (Ext.refl s) rfl
 split
 ·rcases jN x.op x.n ((x.args.map s.vals).getD 0 0) s with h | h
  ·rw [h];exact .over hl.1 hl.2 (s9 _)
  rw [h];exact .go hl.1 hl.2
 split
 ·rcases jN x.op x.n ((x.args.map s.vals).getD 0 0) s with h | h
  ·rw [h];exact .over hl.1 hl.2 (s9 _)
  rw [h];exact .go hl.1 hl.2
 split
 ·split
  ·exact .over (Ext.refl s) rfl (by show (4:Int) ≠ 3;omega)
  exact .go ⟨aB _,⟨_,rfl⟩,aB _⟩ rfl
 split
 ·exact .go (Ext.refl s) rfl
 split
 ·exact .go ⟨aB _,⟨[],by simp⟩,aB _⟩ rfl
 split
 ·exact .over (Ext.refl s) rfl (by show (2:Int) ≠ 3;omega)
 exact .go (Ext.refl s) rfl
end Go.Proofs.YtgmhnepmkaonaaaGreat
