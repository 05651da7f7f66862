/- Part 6. -/
import Derived.Test.YtcmflfkpeodicaaGreatIRA5
import Derived.Shelf.Abstract
namespace Go.Proofs.YtcmflfkpeodicaaGreat
set_option maxHeartbeats 1600000
set_option linter.all false
open Go.RowKit
theorem eQ.form {α : Type} {R:World -> List Value -> α -> Prop} {size:Nat} {W:World} {v:Value} {xs:List α} (h:eQ R size W v xs):∃ a c,v = .slice a xs.length c:=by
 obtain ⟨cs,h1,_⟩:=h
 obtain ⟨a,c,hv,_⟩:=h1.is
 exact ⟨a,c,hv⟩
structure BlockC (W:World) (b o:Nat) (x:BlockD) (ap ai at_:Option Addr) (cp ci ct:Nat):Prop where
 c0:W.cell? ⟨b,o,none⟩=some (.slice ap x.phis.length cp)
 c1:W.cell? ⟨b,o+1,none⟩=some (.slice ai x.code.length ci)
 c2:W.cell? ⟨b,o+2,none⟩=some (.int .i64 x.term.op)
 c3:W.cell? ⟨b,o+3,none⟩=some (.int .i64 x.term.val)
 c4:W.cell? ⟨b,o+4,none⟩=some (.slice at_ x.term.to.length ct)
 c5:W.cell? ⟨b,o+5,none⟩=some (.int .i64 x.term.n)
 phis:eQ PhiR 4 W (.slice ap x.phis.length cp) x.phis
 code:eQ kY 4 W (.slice ai x.code.length ci) x.code
 to:Ints W (.slice at_ x.term.to.length ct) x.term.to
 op64:In64 x.term.op
 val64:In64 x.term.val
 n64:In64 x.term.n
structure PhiC (W:World) (b o:Nat) (x:PhiD) (af av:Option Addr) (cf cv:Nat):Prop where
 c0:W.cell? ⟨b,o,none⟩=some (.int .i64 x.id)
 c1:W.cell? ⟨b,o+1,none⟩=some (.int .i64 x.typ)
 c2:W.cell? ⟨b,o+2,none⟩=some (.slice af x.src.length cf)
 c3:W.cell? ⟨b,o+3,none⟩=some (.slice av x.vals.length cv)
 src:Ints W (.slice af x.src.length cf) x.src
 vals:Ints W (.slice av x.vals.length cv) x.vals
 id64:In64 x.id
 typ64:In64 x.typ
structure InstrC (W:World) (b o:Nat) (x:InstrD) (aa:Option Addr) (ca:Nat):Prop where
 c0:W.cell? ⟨b,o,none⟩=some (.int .i64 x.op)
 c1:W.cell? ⟨b,o+1,none⟩=some (.int .i64 x.id)
 c2:W.cell? ⟨b,o+2,none⟩=some (.slice aa x.args.length ca)
 c3:W.cell? ⟨b,o+3,none⟩=some (.int .i64 x.n)
 args:Ints W (.slice aa x.args.length ca) x.args
 op64:In64 x.op
 id64:In64 x.id
 n64:In64 x.n
theorem BlockC.below {W W' : World} {b o:Nat} {x:BlockD} {ap ai at_:Option Addr} {cp ci ct:Nat} (h:BlockC W b o x ap ai at_ cp ci ct) (hb:Below W.heap.size W W') (hl:b < W.heap.size):BlockC W' b o x ap ai at_ cp ci ct :=
 ⟨(hb.cell hl).trans h.c0,(hb.cell hl).trans h.c1,(hb.cell hl).trans h.c2,(hb.cell hl).trans h.c3,(hb.cell hl).trans h.c4,(hb.cell hl).trans h.c5,h.phis.below PhiR.lasting hb,h.code.below kY.lasting hb,h.to.below hb,h.op64,h.val64,h.n64⟩
theorem PhiC.below {W W' : World} {b o:Nat} {x:PhiD} {af av:Option Addr} {cf cv:Nat} (h:PhiC W b o x af av cf cv) (hb:Below W.heap.size W W') (hl:b < W.heap.size):PhiC W' b o x af av cf cv :=
 ⟨(hb.cell hl).trans h.c0,(hb.cell hl).trans h.c1,(hb.cell hl).trans h.c2,(hb.cell hl).trans h.c3,h.src.below hb,h.vals.below hb,h.id64,h.typ64⟩
theorem InstrC.below {W W' : World} {b o:Nat} {x:InstrD} {aa:Option Addr} {ca:Nat} (h:InstrC W b o x aa ca) (hb:Below W.heap.size W W') (hl:b < W.heap.size):InstrC W' b o x aa ca :=
 ⟨(hb.cell hl).trans h.c0,(hb.cell hl).trans h.c1,(hb.cell hl).trans h.c2,(hb.cell hl).trans h.c3,h.args.below hb,h.op64,h.id64,h.n64⟩
theorem eW {W:World} {v:Value} {bs:List BlockD} (h:eQ gF 6 W v bs):∃ a cap b off,v = .slice a bs.length cap/\bs.length <= cap/\cap <= 9223372036854775807/\bs.length <= 17592186044416/\(0 < bs.length -> a=some ⟨b,off,none⟩/\b < W.heap.size) /\
  ∀ j x,bs[j]? = some x -> ∃ ap ai at_ cp ci ct,BlockC W b (off+j * 6) x ap ai at_ cp ci ct:=by
 obtain ⟨a,cap,b,off,hv,h1,h2,h3,h4,h5⟩:=h.parts (by omega)
 refine ⟨a,cap,b,off,hv,h1,h2,h3,h4,fun j x hj => ?_⟩
 obtain ⟨ds,⟨u,c,t,rfl,hp,hc,w,rfl,ht,q1,q2,q3⟩,_,hcell⟩:=h5 j x hj
 obtain ⟨ap,cp,rfl⟩:=hp.form
 obtain ⟨ai,ci,rfl⟩:=hc.form
 obtain ⟨at_,ct,rfl⟩:=ht.form
 exact ⟨ap,ai,at_,cp,ci,ct,hcell 0 _ rfl,hcell 1 _ rfl,hcell 2 _ rfl,hcell 3 _ rfl,hcell 4 _ rfl,hcell 5 _ rfl,hp,hc,ht,q1,q2,q3⟩
theorem fV {W:World} {v:Value} {ps:List PhiD} (h:eQ PhiR 4 W v ps):∃ a cap b off,v = .slice a ps.length cap/\ps.length <= cap/\cap <= 9223372036854775807/\ps.length <= 17592186044416/\(0 < ps.length -> a=some ⟨b,off,none⟩/\b < W.heap.size) /\
  ∀ j x,ps[j]? = some x -> ∃ af av cf cv,PhiC W b (off+j * 4) x af av cf cv:=by
 obtain ⟨a,cap,b,off,hv,h1,h2,h3,h4,h5⟩:=h.parts (by omega)
 refine ⟨a,cap,b,off,hv,h1,h2,h3,h4,fun j x hj => ?_⟩
 obtain ⟨ds,⟨u,c,rfl,hp,hc,q1,q2⟩,_,hcell⟩:=h5 j x hj
 obtain ⟨af,cf,rfl⟩:=hp.form
 obtain ⟨av,cv,rfl⟩:=hc.form
 exact ⟨af,av,cf,cv,hcell 0 _ rfl,hcell 1 _ rfl,hcell 2 _ rfl,hcell 3 _ rfl,hp,hc,q1,q2⟩
theorem gC {W:World} {v:Value} {xs:List InstrD} (h:eQ kY 4 W v xs):∃ a cap b off,v = .slice a xs.length cap/\xs.length <= cap/\cap <= 9223372036854775807/\xs.length <= 17592186044416/\(0 < xs.length -> a=some ⟨b,off,none⟩/\b < W.heap.size) /\
  ∀ j x,xs[j]? = some x -> ∃ aa ca,InstrC W b (off+j * 4) x aa ca:=by
 obtain ⟨a,cap,b,off,hv,h1,h2,h3,h4,h5⟩:=h.parts (by omega)
 refine ⟨a,cap,b,off,hv,h1,h2,h3,h4,fun j x hj => ?_⟩
 obtain ⟨ds,⟨u,rfl,hp,q1,q2,q3⟩,_,hcell⟩:=h5 j x hj
 obtain ⟨aa,ca,rfl⟩:=hp.form
 exact ⟨aa,ca,hcell 0 _ rfl,hcell 1 _ rfl,hcell 2 _ rfl,hcell 3 _ rfl,hp,q1,q2,q3⟩
def phiA (x:PhiD) (af av:Option Addr) (cf cv:Nat):Array Value:=#[.int .i64 x.id,.int .i64 x.typ,.slice af x.src.length cf,.slice av x.vals.length cv]
def vI (x:InstrD) (aa:Option Addr) (ca:Nat):Array Value:=#[.int .i64 x.op,.int .i64 x.id,.slice aa x.args.length ca,.int .i64 x.n]
def aCG (x:TermD) (at_:Option Addr) (ct:Nat):Array Value:=#[.int .i64 x.op,.int .i64 x.val,.slice at_ x.to.length ct,.int .i64 x.n]
def encT (T:List (Int × Int)):List (Int × Value):=T.map fun p=>(p.1,.int .i64 p.2)
def tyOf (T:List (Int × Int)) (id:Int):Option Int:=(T.find? fun p=>p.1 == id).map (·.2)
theorem qT (T:List (Int × Int)) (id:Int):mget (encT T) id=(tyOf T id).map (Value.int .i64):=by
 unfold mget tyOf encT
 induction T with
 | nil=>rfl
 | cons p T ih =>
  simp only [cR,List.find?_cons]
  cases h:p.1 == id
  ·simpa using ih
  rfl
theorem jS {T:List (Int × Int)} {id:Int}:tyOf T id=none ↔ id ∉ T.map (·.1):=by
 unfold tyOf
 rw [Option.map_eq_none_iff,List.find?_eq_none]
 simp only [aY,not_exists,not_and]
 constructor
 ·intro h p hp e;exact h p hp (by simp [e])
 intro h p hp e;exact h p hp (by simpa using e)
theorem qU {T:List (Int × Int)} {id t:Int} (h:tyOf T id=some t):(id,t) ∈ T:=by
 unfold tyOf at h
 cases hf:T.find? (fun p=>p.1 == id) with
 | none=>rw [hf] at h;cases h
 | some p =>
  rw [hf] at h
  simp at h
  have h1:=eB hf
  have h2:=List.find?_some hf
  simp at h2
  rw [<-h, <-h2];exact h1
theorem vJ {T:List (Int × Int)} {id t:Int} (h:tyOf T id=none):mput (encT T) id (.int .i64 t)=encT (T ++ [(id,t)]):=by
 unfold mput
 rw [qT,h]
 simp [encT]
def iX (np:Nat) (T:List (Int × Int)) (id t:Int):Option (List (Int × Int)):=if !(tyOf T id).isSome && !decide (id < np) && decide (id < 1048576) then some (T ++ [(id,t)]) else none
theorem aAS (np:Nat) (T:List (Int × Int)) (id t:Int):fresh np (encT T) id=(iX np T id t).isSome:=by
 unfold fresh iX
 rw [qT,Option.isSome_map]
 split <;> rename_i h
 ·rw [h];rfl
 simpa using h
def numB (nb:Nat) (b:Int):Bool:=decide (0 <= b) && decide (b < nb)
def iR (nb:Nat) (p:PhiD):Bool:=(p.typ == 1 || p.typ == 2) && (p.src.length == p.vals.length) && p.src.all (numB nb) && decide p.src.Nodup
def topN (ar ce k:Int):Option Int:=if k=0 then some 0 else if k=2 then some 1 else if k=3 then some (ar - 1) else if k=4 then some (ce - 1) else none
def nOk (ar ce k n:Int):Bool:=match topN ar ce k with | none=>true | some l=>decide (0 <= n) && decide (n <= l)
def fQ (ar ce:Int) (x:InstrD):Bool:=(shp x.op).isSome && (x.args.length == (shp0 x.op).args.length) && nOk ar ce (shp0 x.op).n x.n && ((shp0 x.op).result != 0 || x.id == -1)
def gS (nb:Nat) (t:TermD):Bool :=
 t.to.all (fun b=>decide (1 <= b) && decide (b < (nb:Int))) &&
  ((t.op == 1 && (t.to.length == 1) && t.val == -1 && t.n == 0) || (t.op == 2 && (t.to.length == 2) && t.n == 0) || (t.op == 3 && (t.to.length == 0) && t.n == 0) || (t.op == 4 && (t.to.length == 0) && t.val == -1 && decide (0 <= t.n)))
def phiM (np nb:Nat) (T:List (Int × Int)) (p:PhiD):Option (List (Int × Int)):=if iR nb p then iX np T p.id p.typ else none
def jT (np:Nat) (ar ce:Int) (T:List (Int × Int)) (x:InstrD):Option (List (Int × Int)):=if fQ ar ce x then (if (shp0 x.op).result=0 then some T else iX np T x.id (shp0 x.op).result) else none
def iY (np nb:Nat) (ar ce:Int) (T:List (Int × Int)) (ib:BlockD × Nat):Option (List (Int × Int)) :=
 if ib.2=0/\0 < ib.1.phis.length then none else
  (ib.1.phis.foldlM (phiM np nb) T).bind fun T=>(ib.1.code.foldlM (jT np ar ce) T).bind fun T=>if gS nb ib.1.term then some T else none
def gD (b:BlockD):Int:=b.phis.length+b.code.length+1
def kZ (f:FuncD):Int:=(f.blocks.map gD).sum
def iH (f:FuncD):Bool :=
 decide (f.params.length <= 16) && decide (0 <= f.arrays) && decide (f.arrays <= 8) && decide (0 <= f.cells) && decide (f.cells <= 64) && decide (1 <= f.blocks.length) && decide (f.blocks.length <= 512) && decide (kZ f <= 4096)
def kH (t:Int):Bool:=t == 1 || t == 2
def parT (ps:List Int):List (Int × Int):=ps.zipIdx.map fun p=>((p.2:Int),p.1)
def sI (f:FuncD):Option (List (Int × Int)) :=
 if iH f && f.params.all kH then f.blocks.zipIdx.foldlM (iY f.params.length f.blocks.length f.arrays f.cells) (parT f.params) else none
def iS (b:BlockD):List (Int × Int):=b.phis.map (fun p=>(p.id,p.typ)) ++ (b.code.filter fun x=>(shp0 x.op).result != 0).map fun x=>(x.id,(shp0 x.op).result)
def oU (f:FuncD):List (Int × Int):=f.blocks.flatMap iS
def eR (f:FuncD):List (Int × Int):=parT f.params ++ oU f
def fN (nb:Nat) (ar ce:Int) (ib:BlockD × Nat):Bool := !(decide (ib.2=0) && decide (0 < ib.1.phis.length)) && ib.1.phis.all (iR nb) && ib.1.code.all (fQ ar ce) && gS nb ib.1.term
def gM (f:FuncD):Bool:=iH f && f.params.all kH && f.blocks.zipIdx.all (fN f.blocks.length f.arrays f.cells)
def idsB (np:Nat) (T l:List (Int × Int)):Bool:=decide ((T ++ l).map (·.1)).Nodup && l.all fun p => !decide (p.1 < np) && decide (p.1 < 1048576)
def idsF (f:FuncD):Bool:=idsB f.params.length (parT f.params) (oU f)
theorem xN {α β : Type} (g : β -> α -> Option β) (l:List α) (s : β) (j:Nat) (x : α) (h:l[j]? = some x):(l.take (j+1)).foldlM g s=((l.take j).foldlM g s).bind fun t=>g t x:=by
 rw [bU,h,Option.toList_some,List.foldlM_append]
 cases (l.take j).foldlM g s with
 | none=>rfl
 | some t=>simp only [Option.bind_eq_bind,dK,List.foldlM_cons,List.foldlM_nil];cases g t x <;> rfl
theorem nK {α β : Type} (g : β -> α -> Option β) (l:List α) (s : β) (j:Nat) (h:(l.take j).foldlM g s=none):l.foldlM g s=none:=by
 have:=cV j l
 rw [<-this,List.foldlM_append,h];rfl
theorem pY (np:Nat) (T:List (Int × Int)) (id t:Int) (hT:(T.map (·.1)).Nodup):iX np T id t=if idsB np T [(id,t)] then some (T ++ [(id,t)]) else none:=by
 have h:(!(tyOf T id).isSome && !decide (id < np) && decide (id < 1048576))=idsB np T [(id,t)]:=by
  have h1:(!(tyOf T id).isSome)=decide ((T ++ [(id,t)]).map (·.1)).Nodup:=by
   rw [cC]
   simp only [eA,Option.isSome_eq_false_iff,Option.isNone_iff_eq_none,jS,decide_eq_true_eq,bF,cR,List.map_nil,cE,eI,dS,not_false_eq_true,List.nodup_nil,and_true,cZ]
   constructor
   ·intro h;exact ⟨hT,trivial,fun a ha b hb e=>h (by rw [<-hb, <-e];exact ha)⟩
   intro h hm;exact h.2.2 id hm id rfl rfl
  unfold idsB
  rw [h1]
  simp [Bool.and_assoc]
 unfold iX
 rw [h]
theorem oV (np:Nat) (T l m:List (Int × Int)):idsB np T (l ++ m)=(idsB np T l && idsB np (T ++ l) m):=by
 unfold idsB
 rw [cC]
 simp only [aN,decide_eq_true_eq,cX, <-List.append_assoc]
 constructor
 ·rintro ⟨h1,h2,h3⟩
  exact ⟨⟨by rw [bF] at h1;exact (cE.1 h1).1,h2⟩,h1,h3⟩
 rintro ⟨⟨_,h2⟩,h1,h3⟩
 exact ⟨h1,h2,h3⟩
theorem nM {np:Nat} {T l:List (Int × Int)} (h:idsB np T l=true):((T ++ l).map (·.1)).Nodup:=by
 unfold idsB at h
 simp only [aN,decide_eq_true_eq] at h
 exact h.1
theorem nN {α : Type} (np:Nat) (g:List (Int × Int) -> α -> Option (List (Int × Int))) (ok : α -> Bool) (ds : α -> List (Int × Int))
  (hg:∀ T x,(T.map (·.1)).Nodup -> g T x=if ok x && idsB np T (ds x) then some (T ++ ds x) else none) (l:List α):∀ T:List (Int × Int),(T.map (·.1)).Nodup ->
  l.foldlM g T=if l.all ok && idsB np T (l.flatMap ds) then some (T ++ l.flatMap ds) else none:=by
 induction l with
 | nil=>intro T hT;simp [idsB,hT]
 | cons x l ih =>
  intro T hT
  rw [List.foldlM_cons,hg T x hT]
  simp only [List.all_cons,cG,oV]
  cases h1:ok x
  ·simp
  cases h2:idsB np T (ds x)
  ·simp
  simp only [cQ,if_true]
  show (l.foldlM g (T ++ ds x))=_
  rw [ih _ (nM h2),bV]
theorem aAT (np nb:Nat) (T:List (Int × Int)) (p:PhiD) (hT:(T.map (·.1)).Nodup):phiM np nb T p=if iR nb p && idsB np T [(p.id,p.typ)] then some (T ++ [(p.id,p.typ)]) else none:=by
 unfold phiM
 rw [pY _ _ _ _ hT]
 cases iR nb p <;> simp
def defI (x:InstrD):List (Int × Int):=if (shp0 x.op).result=0 then [] else [(x.id,(shp0 x.op).result)]
theorem tX (np:Nat) (ar ce:Int) (T:List (Int × Int)) (x:InstrD) (hT:(T.map (·.1)).Nodup):jT np ar ce T x=if fQ ar ce x && idsB np T (defI x) then some (T ++ defI x) else none:=by
 unfold jT defI
 cases fQ ar ce x
 ·simp
 by_cases h:(shp0 x.op).result=0
 ·simp [h,idsB,hT]
 simp only [if_true,if_neg h,cQ];rw [pY _ _ _ _ hT]
theorem sJ (l:List PhiD):l.flatMap (fun p=>[(p.id,p.typ)])=l.map (fun p=>(p.id,p.typ)):=vL _ _
theorem sK (l:List InstrD):l.flatMap defI=(l.filter fun x=>(shp0 x.op).result != 0).map fun x=>(x.id,(shp0 x.op).result):=by
 induction l with
 | nil=>rfl
 | cons x l ih =>
  rw [cG,ih,List.filter_cons]
  unfold defI
  by_cases h:(shp0 x.op).result=0 <;> simp [h]
theorem tY (np nb:Nat) (ar ce:Int) (T:List (Int × Int)) (ib:BlockD × Nat) (hT:(T.map (·.1)).Nodup) :
  iY np nb ar ce T ib=if fN nb ar ce ib && idsB np T (iS ib.1) then some (T ++ iS ib.1) else none:=by
 unfold iY fN iS
 by_cases h0:ib.2=0/\0 < ib.1.phis.length
 ·simp [h0]
 ·rw [if_neg h0]
  have h0' : (!(decide (ib.2=0) && decide (0 < ib.1.phis.length)))=true:=by
   rw [<-Bool.decide_and,decide_eq_false h0];rfl
  rw [h0',nN np _ (iR nb) (fun p=>[(p.id,p.typ)]) (fun T x hT=>aAT np nb T x hT) _ _ hT,oV,sJ, <-sK]
  simp only [cQ]
  cases h1:ib.1.phis.all (iR nb)
  ·simp
  cases h2:idsB np T (ib.1.phis.map fun p=>(p.id,p.typ))
  ·simp
  simp only [cQ,if_true,dK]
  rw [nN np _ (fQ ar ce) defI (fun T x hT=>tX np ar ce T x hT) _ _ (nM h2)]
  cases h3:ib.1.code.all (fQ ar ce)
  ·simp
  cases h4:idsB np (T ++ ib.1.phis.map fun p=>(p.id,p.typ)) (ib.1.code.flatMap defI)
  ·simp
  simp [bV]
theorem kO (ps:List Int):(parT ps).map (·.1)=(List.range ps.length).map fun i:Nat=>(i:Int):=by
 unfold parT
 rw [dP]
 apply bN
 intro i
 simp [cN,List.getElem?_range]
 by_cases h:i < ps.length <;> simp [h]
theorem xO (ps:List Int):((parT ps).map (·.1)).Nodup:=by
 rw [kO,dZ,List.pairwise_map]
 exact List.nodup_range.imp fun h e=>h (by omega)
theorem aCH (f:FuncD):f.blocks.zipIdx.flatMap (fun ib=>iS ib.1)=oU f:=by
 unfold oU
 have:f.blocks.zipIdx.flatMap (fun ib=>iS ib.1)=(f.blocks.zipIdx.map (·.1)).flatMap iS:=by rw [List.flatMap_map]
 rw [this,List.zipIdx_map_fst]
theorem aCI (f:FuncD):sI f=if gM f && idsF f then some (eR f) else none:=by
 unfold sI gM idsF eR
 cases h:(iH f && f.params.all kH)
 ·simp
 simp only [if_true,cQ]
 rw [nN f.params.length _ (fN f.blocks.length f.arrays f.cells) (fun ib=>iS ib.1) (fun T x hT=>tY _ _ _ _ T x hT) _ _ (xO _),aCH]
def nW (p:PhiD):List (Int × Int):=p.vals.map fun v=>(v,p.typ)
def oW (x:InstrD):List (Int × Int):=x.args.zip (shp0 x.op).args
def oX (t:TermD):List (Int × Int):=if t.op=2 then [(t.val,2)] else if t.op=3 then [(t.val,0)] else []
def mZ (b:BlockD):List (Int × Int):=b.phis.flatMap nW ++ b.code.flatMap oW ++ oX b.term
def jD (f:FuncD):List (Int × Int):=f.blocks.flatMap mZ
def useE (T:List (Int × Int)) (e:Int) (u:Int × Int):Int:=match tyOf T u.1 with
 | none=>6
 | some t=>if u.2 ≠ 0/\t ≠ u.2/\e=0 then 3 else e
def kX (T:List (Int × Int)) (u:Int × Int):Bool:=match tyOf T u.1 with | none=>false | some t=>u.2 != 0 && t != u.2
def kI (T us:List (Int × Int)):Int:=if us.any (fun u => !(tyOf T u.1).isSome) then 6 else if us.any (kX T) then 3 else 0
theorem xP (T us:List (Int × Int)) (u:Int × Int):kI T (us ++ [u])=useE T (kI T us) u:=by
 unfold kI useE kX
 simp only [List.any_append,List.any_cons,List.any_nil,Bool.or_false]
 cases h:tyOf T u.1 with
 | none=>simp
 | some t =>
  simp only [Option.isSome_some,Bool.not_true,Bool.or_false]
  cases h1:us.any (fun u => !(tyOf T u.1).isSome)
  ·cases h2:us.any (fun u=>match tyOf T u.1 with | none=>false | some t=>u.2 != 0 && t != u.2)
   ·by_cases h3:u.2=0 <;> by_cases h4:t=u.2 <;> simp [h3,h4]
   simp
  simp
def eL (f:FuncD):Int:=if gM f && idsF f then kI (eR f) (jD f) else 2
theorem sL {w:World} {bc bm:Nat} {vp:Value} {ab:Option Addr} {nb cb:Nat} {ar ce:Int} (hb:Box w bc (chk vp (.slice ab nb cb) ar ce bm)) (b:Int) (r:Bool) (hr:numB nb b=r) :
  Calls Tryz.prog 214 #[.pointer (some ⟨bc,0,none⟩),.int .i64 b] w fun e w'=>e = .returned (.bool r)/\w=w' :=
 (aCJ hb b).mono fun e w' ⟨he,hw⟩=>⟨by rw [he, <-hr];rfl,hw.symm⟩
def iA (r:Option (List (Int × Int))) (bm:Nat) (w:World) (e:Ending) (w' : World):Prop:=e = .returned (.bool r.isSome)/\(∀ T,r=some T -> IMap w' bm (encT T))/\Turn [bm] w w'
theorem iA.no {r:Option (List (Int × Int))} {bm:Nat} {w w' : World} (hr:r=none) (ht:Turn [bm] w w'):iA r bm w (.returned (.bool false)) w':=by subst hr;exact ⟨rfl,⟨fun T h=>(by cases h),ht⟩⟩
theorem iA.yes {r:Option (List (Int × Int))} {T:List (Int × Int)} {bm:Nat} {w w' : World} (hr:r=some T) (hm:IMap w' bm (encT T)) (ht:Turn [bm] w w'):iA r bm w (.returned (.bool true)) w':=by
 subst hr;exact ⟨rfl,⟨fun T h=>(by cases h;exact hm),ht⟩⟩
theorem vK {w:World} {bc bm:Nat} {ap:Option Addr} {np cp:Nat} {vb:Value} {ar ce:Int} {T:List (Int × Int)} (hb:Box w bc (chk (.slice ap np cp) vb ar ce bm)) (hm:IMap w bm (encT T)) (id t:Int) :
  Calls Tryz.prog 215 #[.pointer (some ⟨bc,0,none⟩),.int .i64 id,.int .i64 t] w (iA (iX np T id t) bm w) :=
 (aAW hb hm id t).mono fun e w' ⟨he,hi,ht⟩=>by
  rw [aAS np T id t] at he hi
  refine ⟨he,fun T' h => ?_,ht⟩
  rw [h] at hi
  unfold iX at h
  split at h
  ·rename_i h2
   cases h
   have h3:tyOf T id=none:=by
    simp only [aN,eA,Option.isSome_eq_false_iff,Option.isNone_iff_eq_none] at h2
    exact h2.1.1
   simpa [vJ h3] using hi
  cases h
section
variable {P:Program} {w:World} {ops:Array Oper} {rest:List Oper} {o:Oper} {a:Act} {Q:Exit -> Act -> World -> Prop}
theorem jK (hg:o.guard=none) (m:Operand) (t:TypeId) (hop:o.op=Op.call { callee:=Callee.builtin Builtin.len,args:=#[m],argTypes:=#[t] }) {k e:TypeId} (ht:P.underlying t=some (.map k e))
  {b:Nat} {mm:List (Int × Value)} (hm:a.eval m = .map (some b)) (h:IMap w b mm) (hK:wpList P ops Q rest (a.put o.dst (.int .i64 mm.length)) w):wpList P ops Q (o :: rest) a w:=by
 refine wpList_plain hg fun K' hK' => ?_
 unfold Oper.wp
 simp [execOp,hop,resolve,invoke,builtin,hm,h.len ht o.type,Result.andThen]
 exact hK' _ _ hK
end
def Asks (k:FuncId) (cap:Array Value) (w:World) (xs:List Int) (p:Int -> Bool):Prop := ∀ W x,Below w.heap.size w W -> x ∈ xs -> Calls Tryz.prog k (#[.int .i64 x] ++ cap) W fun e W'=>e = .returned (.bool (p x))/\Below W.heap.size W W'
def IdxR (xs:List Int) (p:Int -> Bool) (w:World) (e:Ending) (w' : World):Prop := ∃ r:Int,e = .returned (.int .i64 r)/\decide (0 <= r)=xs.any p/\Below w.heap.size w w'
theorem aAU {w:World} {v:Value} {xs:List Int} (hs:Ints w v xs) (k:FuncId) (cap:Array Value) (p:Int -> Bool) (eg:Enters Tryz.prog k) (hf:Asks k cap w xs p) :
  Calls Tryz.prog 158 #[v,.func (.func k) #[] cap] w (IdxR xs p w):=by
 obtain ⟨a,c,b,o,rfl,hc,hm,ha,hx⟩:=hs.parts
 have HA:=h! ha
 have HX:=h! hx
 have HF:=h! hf
 clear ha hx hf hs
 obtain ⟨n,hnn⟩ : ∃ n,n=xs.length:=⟨_,rfl⟩
 rw [<-hnn] at hc HA HX ⊢
 have HN:=h! hnn
 clear hnn
 go_enter Tryz.func158,Tryz.ntmps158
 go_wp2
 go_loopw [8] (fun i wr => ∃ j:Nat,j <= n/\i = .int .i64 j/\(xs.take j).any p=false/\Below w.heap.size w wr) (fun i _=>n - (intOf i).toNat)
 case atStart=>exact ⟨0,aP _,rfl,by simp,Below.refl _ _⟩
 case round =>
  obtain ⟨j,hj,rfl,hp,hW⟩:=hrel
  have HP:=h! hp
  have HW:=h! hW
  clear hW hp
  by_cases hlt:j < n
  ·have hne:0 < n:=by omega
   obtain ⟨rfl,hbw⟩:=HA.out hne
   have hjx:xs[j]? = some (xs.getD j 0):=by rw [aH,aB (by have:=HN.out;omega)];rfl
   have hmem:=aG hjx
   have h0:=(HW.out.cell hbw).trans (HX.out j hlt)
   generalize xs.getD j 0=y at *
   have HF1:=h! (HF.out wr y HW.out hmem)
   have HSN:=h! (show (xs.take (j+1)).any p=((xs.take j).any p || p y) by rw [bU,hjx];simp)
   have HM:=h! hmem
   clear hjx hmem
   cases hpy:p y
   ·have HPY:=h! hpy
    rw [hpy] at HF1
    clear hpy
    have eg1:∀ (args:Array Value) (w:World),(callFunc k args).run Tryz.prog w = .ok (.enter k args) w:=eg
    go_wp2_with (go_at_fn k;refine HF1.out.mono ?_;rintro e w2 ⟨rfl,hb2⟩;have HB:=h! hb2;clear hb2)
    go_roundw
    case rel=>exact ⟨j+1,hlt,by go_num,by rw [HSN.out,HP.out,HPY.out];rfl,HW.out.trans (HB.out.mono HW.out.size)⟩
    simp [intOf];omega
   have HPY:=h! hpy
   rw [hpy] at HF1
   clear hpy
   have eg1:∀ (args:Array Value) (w:World),(callFunc k args).run Tryz.prog w = .ok (.enter k args) w:=eg
   go_wp2_with (go_at_fn k;refine HF1.out.mono ?_;rintro e w2 ⟨rfl,hb2⟩;have HB:=h! hb2;clear hb2)
   go_ret
   exact ⟨_,rfl,by rw [show xs.any p=true from eG.2 ⟨_,HM.out,HPY.out⟩];simp,HW.out.trans (HB.out.mono HW.out.size)⟩
  obtain rfl:j=n:=by omega
  have HT:Hid (xs.any p=false):=h! (by have:=HP.out;rwa [aI (by have:=HN.out;omega)] at this)
  go_wp2
  go_ret
  exact ⟨_,rfl,by rw [HT.out];rfl,HW.out⟩
theorem kC {w:World} {v:Value} {xs:List Int} (hs:Ints w v xs) (k:FuncId) (cap:Array Value) (p:Int -> Bool) (eg:Enters Tryz.prog k) (hf:Asks k cap w xs p) :
  Calls Tryz.prog 92 #[v,.func (.func k) #[] cap] w fun e w'=>e = .returned (.bool (xs.any p))/\Below w.heap.size w w':=by
 have HS:=h! hs
 have HF:=h! hf
 clear hs hf
 go_enter Tryz.func92,Tryz.ntmps92
 go_wp2_with fail
 refine (aAU HS.out k cap p eg HF.out).mono ?_
 rintro e w1 ⟨r,rfl,hr,hb⟩
 have HR:=h! hr
 have HB:=h! hb
 clear hr hb
 go_wp2
 go_ret
 rw [HR.out]
 exact ⟨rfl,HB.out⟩
end Go.Proofs.YtcmflfkpeodicaaGreat
