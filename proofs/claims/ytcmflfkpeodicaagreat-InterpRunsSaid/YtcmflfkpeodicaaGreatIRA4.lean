/- Part 4. -/
import Derived.Maps.OwnSet
import Derived.Test.YtcmflfkpeodicaaGreatIRA3
import Derived.Laws.CopyOwn
namespace Go.Proofs.YtcmflfkpeodicaaGreat
set_option maxHeartbeats 6400000
set_option linter.all false
open Go.RowKit
structure Turn (bs:List Nat) (w w' : World):Prop where
 os:w'.os=w.os
 tape:w'.tape=w.tape
 output:w'.output=w.output
 size:w.heap.size <= w'.heap.size
 block:∀ k,k < w.heap.size -> k ∉ bs -> w'.heap[k]? = w.heap[k]?
theorem Turn.of_below {w w' : World} (h:Below w.heap.size w w') (bs:List Nat):Turn bs w w':=⟨h.os,h.tape,h.output,h.size,fun k hk _=>h.block k hk⟩
theorem Turn.refl (bs:List Nat) (w:World):Turn bs w w:=⟨rfl,rfl,rfl,aF _,fun _ _ _=>rfl⟩
theorem Turn.trans {bs:List Nat} {a b c:World} (h:Turn bs a b) (k:Turn bs b c):Turn bs a c :=
 ⟨k.os.trans h.os,k.tape.trans h.tape,k.output.trans h.output,aJ h.size k.size,fun i hi hn=>(k.block i (aL hi h.size) hn).trans (h.block i hi hn)⟩
theorem Turn.more {bs bs' : List Nat} {a b:World} (h:Turn bs a b) (hb:∀ x ∈ bs,x ∈ bs'):Turn bs' a b:=⟨h.os,h.tape,h.output,h.size,fun k hk hn=>h.block k hk fun hm=>hn (hb k hm)⟩
theorem Turn.below {bs:List Nat} {a b:World} (h:Turn bs a b) {B:Nat} (hB:B <= a.heap.size) (hb:∀ x ∈ bs,B <= x):Below B a b :=
 ⟨h.os,h.tape,h.output,h.size,fun k hk=>h.block k (by omega) fun hm=>by have:=hb k hm;omega⟩
theorem Box.turn {W W' : World} {bs:List Nat} {b:Nat} {A:Array Value} (h:Box W b A) (ht:Turn bs W W') (hb:b ∉ bs):Box W' b A:=by
 have hh:=ht.block b h.lt hb
 exact ⟨aL h.lt ht.size,fun o=>(World.cell?_of_block (w:=W) (a:=⟨b,o,none⟩) hh).trans (h.cell o),fun o=>(World.frozen?_of_block (w:=W) (a:=⟨b,o,none⟩) hh).trans (h.free o)⟩
structure IMap (W:World) (b:Nat) (m:List (Int × Value)):Prop where
 ex:∃ es clock,W.heap[b]? = some (.map es clock)/\es.toList.map (fun e=>(e.key,e.val))=m.map (fun p=>(Value.int .i64 p.1,p.2))/\(es.toList.map (·.born)).Nodup /\ ∀ e ∈ es.toList,e.born < clock
 nodup:(m.map (·.1)).Nodup
theorem IMap.lt {W:World} {b:Nat} {m:List (Int × Value)} (h:IMap W b m):b < W.heap.size:=by
 obtain ⟨es,c,hh,_⟩:=h.ex
 exact (aS.1 hh).1
theorem IMap.keep {W W' : World} {b:Nat} {m:List (Int × Value)} (h:IMap W b m) (hb:W'.heap[b]? = W.heap[b]?):IMap W' b m:=by
 obtain ⟨es,c,hh,r⟩:=h.ex
 exact ⟨⟨es,c,hb.trans hh,r⟩,h.nodup⟩
theorem IMap.later {W W' : World} {b:Nat} {m:List (Int × Value)} (h:IMap W b m) (hb:Below W.heap.size W W'):IMap W' b m:=h.keep (hb.block b h.lt)
theorem IMap.turn {W W' : World} {bs:List Nat} {b:Nat} {m:List (Int × Value)} (h:IMap W b m) (ht:Turn bs W W') (hb:b ∉ bs):IMap W' b m:=h.keep (ht.block b h.lt hb)
theorem IMap.new (w:World):IMap (w.alloc (.map #[] 0)) w.heap.size []:=by
 refine ⟨⟨#[],0, ?_,rfl,by simp,by simp⟩,by simp⟩
 show (w.heap.push _)[w.heap.size]? = _
 simp
def mget (m:List (Int × Value)) (k:Int):Option Value:=(m.find? (fun p=>p.1 == k)).map (·.2)
def mput (m:List (Int × Value)) (k:Int) (v:Value):List (Int × Value):=if (mget m k).isSome then m.map (fun p=>if p.1=k then (k,v) else p) else m ++ [(k,v)]
theorem oY {m:List (Int × Value)} {k:Int}:mget m k=none ↔ k ∉ m.map (·.1):=by
 unfold mget
 rw [Option.map_eq_none_iff,List.find?_eq_none]
 simp only [aY,not_exists,not_and]
 constructor
 ·intro h p hp e;exact h p hp (by simp [e])
 intro h p hp e;exact h p hp (by simpa using e)
theorem aAV {m:List (Int × Value)} {k:Int} {v:Value} (h:mget m k=some v):(k,v) ∈ m:=by
 unfold mget at h
 cases hf:m.find? (fun p=>p.1 == k) with
 | none=>rw [hf] at h;cases h
 | some p =>
  rw [hf] at h
  simp at h
  have h1:=eB hf
  have h2:=List.find?_some hf
  simp at h2
  rw [<-h, <-h2];exact h1
theorem nR (q:IntKind) (k:Int):∀ (l:List MapEntry) (m:List (Int × Value)) (i:Nat),l.map (fun e=>(e.key,e.val))=m.map (fun p=>(Value.int .i64 p.1,p.2)) ->
  Instr.findNow (.int q) (.int .i64 k) l i=some ((m.findIdx? (fun p=>p.1 == k)).bind fun j=>(m[j]?).map fun p=>(i+j,p.2))
 | [],m,i,h=>by
  cases m with
  | nil=>rfl
  | cons=>simp at h
 | e :: l,m,i,h=>by
  cases m with
  | nil=>simp at h
  | cons p m =>
   simp only [cR,List.cons.injEq,Prod.mk.injEq] at h
   obtain ⟨⟨h1,h2⟩,h3⟩:=h
   simp only [Instr.findNow,h1,Instr.sameNow,if_true]
   by_cases e1:k=p.1
   ·subst e1
    simp [List.findIdx?_cons,h2]
   have hb:(k == p.1)=false:=by simpa using e1
   have hb' : (p.1 == k)=false:=by simpa using fun e=>e1 e.symm
   rw [hb]
   simp only
   rw [nR q k l m (i+1) h3]
   simp only [List.findIdx?_cons,hb',bL,if_false]
   cases m.findIdx? (fun p=>p.1 == k) with
   | none=>rfl
   | some j=>simp [Nat.add_comm,Nat.add_left_comm]
theorem oB (m:List (Int × Value)) (k:Int):mget m k=(m.findIdx? (fun p=>p.1 == k)).bind fun j=>(m[j]?).map (·.2):=by
 unfold mget
 induction m with
 | nil=>rfl
 | cons p m ih =>
  by_cases e:(p.1 == k)=true
  ·simp [List.find?_cons,List.findIdx?_cons,e]
  simp only [dI] at e
  simp only [List.find?_cons,e,List.findIdx?_cons,bL,if_false]
  rw [ih]
  cases m.findIdx? (fun p=>p.1 == k) with
  | none=>rfl
  | some j=>simp
section
variable {P:Program} {w:World}
theorem lI {k:TypeId} {q:IntKind} (hk:P.underlying k=some (.int q)) (empty:Bool) (x:Int):(Instr.checkKey empty 10000 k (.int .i64 x)).run P w = .ok () w:=by
 unfold Instr.checkKey
 simp [run_underlying hk,Sem.run_bind,Result.andThen]
theorem mJ {k:TypeId} {q:IntKind} (hk:P.underlying k=some (.int q)) (x:Int) {l:List MapEntry} {m:List (Int × Value)} (h:l.map (fun e=>(e.key,e.val))=m.map (fun p=>(Value.int .i64 p.1,p.2))) :
  (Instr.findKey k (.int .i64 x) l).run P w = .ok ((m.findIdx? (fun p=>p.1 == x)).bind fun j=>(m[j]?).map fun p=>(j,p.2)) w:=by
 unfold Instr.findKey
 simp only [Sem.run_bind,run_underlying hk,Result.andThen,nR q x l m 0 h,bH]
 rfl
theorem IMap.lookup {t k e:TypeId} {q:IntKind} {b:Nat} {m:List (Int × Value)} (h:IMap w b m) (ht:P.underlying t=some (.map k e)) (hk:P.underlying k=some (.int q)) {z:Value} (hz:(zeroValue e).run P w = .ok z w) (x:Int) :
  (Instr.lookup t (.map (some b)) (.int .i64 x) true).run P w = .ok (.tuple #[(mget m x).getD z,.bool (mget m x).isSome]) w:=by
 obtain ⟨es,c,hh,hm,_⟩:=h.ex
 have hf:=mJ (P:=P) (w:=w) hk x hm
 unfold Instr.lookup
 have hg:(Sem.getObj b Sem.pure:Sem Obj).run P w = .ok (.map es c) w:=by simp [Sem.run,hh]
 rw [oB]
 simp only [Sem.run_bind,run_underlying ht,Result.andThen,getObj,hg,Sem.run_pure,lI hk,hf]
 cases hi:(m.findIdx? (fun p=>p.1 == x)) with
 | none=>simp [hz,Result.andThen,Sem.run_pure]
 | some j =>
  simp only [dK]
  cases hj:m[j]? with
  | none=>simp [hz,Result.andThen,Sem.run_pure]
  | some p=>simp [Result.andThen,Sem.run_pure]
theorem xQ {m:List (Int × Value)} {k:Int} {j:Nat} (h:m.findIdx? (fun p=>p.1 == k)=some j):∃ p,m[j]? = some p/\p.1=k/\j < m.length:=by
 obtain ⟨hlt,h1,_⟩:=List.findIdx?_eq_some_iff_getElem.1 h
 exact ⟨m[j],List.getElem?_eq_getElem hlt,by simpa using h1,hlt⟩
theorem sM {m:List (Int × Value)} {k:Int} {v:Value}:(mput m k v).map (·.1)=if (mget m k).isSome then m.map (·.1) else m.map (·.1) ++ [k]:=by
 unfold mput
 split
 ·rw [dP]
  apply dR
  intro p _
  simp only [Function.comp]
  split
  ·rename_i h;exact h.symm
  rfl
 simp
theorem pZ {m:List (Int × Value)} {k:Int} {v:Value} (h:(m.map (·.1)).Nodup):((mput m k v).map (·.1)).Nodup:=by
 rw [sM]
 cases hg:mget m k with
 | some u=>simpa using h
 | none =>
  have:=oY.1 hg
  simp only [Option.isSome_none,bL,if_false]
  rw [cE]
  refine ⟨h,by simp,fun a ha b hb => ?_⟩
  simp at hb
  subst hb
  exact fun e=>this (e ▸ ha)
theorem oZ (m:List (Int × Value)) (k j:Int) (v:Value):mget (mput m k v) j=if j=k then some v else mget m j:=by
 unfold mput
 cases hg:mget m k with
 | none =>
  simp only [Option.isSome_none,bL,if_false]
  unfold mget at *
  rw [List.find?_append]
  by_cases e:j=k
  ·subst e
   have:m.find? (fun p=>p.1 == j)=none:=by simpa using hg
   simp [this]
  rw [if_neg e]
  have:([(k,v)] : List (Int × Value)).find? (fun p=>p.1 == j)=none:=by simp;exact fun h=>e h.symm
  rw [this,Option.or_none]
 | some u =>
  simp only [Option.isSome_some,if_true]
  unfold mget at *
  rw [List.find?_map]
  have hc:((fun p:Int × Value=>p.1 == j) ∘ fun p=>if p.1=k then (k,v) else p)=fun p=>p.1 == j:=by
   funext p
   simp only [Function.comp]
   split
   ·rename_i h;rw [h]
   rfl
  rw [hc]
  cases hf:m.find? (fun p=>p.1 == j) with
  | none =>
   by_cases e:j=k
   ·subst e;rw [hf] at hg;cases hg
   simp [e]
  | some p =>
   have h2:=List.find?_some hf
   simp at h2
   by_cases e:j=k
   ·subst e;simp [h2]
   simp [e,h2]
theorem IMap.update {t k e:TypeId} {q:IntKind} {b:Nat} {m:List (Int × Value)} (h:IMap w b m) (ht:P.underlying t=some (.map k e)) (hk:P.underlying k=some (.int q)) (x:Int) (v:Value) :
  ∃ w',(Instr.mapUpdate t (.map (some b)) (.int .i64 x) v).run P w = .ok () w' /\ IMap w' b (mput m x v)/\w'.heap.size=w.heap.size/\Turn [b] w w':=by
 obtain ⟨es,c,hh,hm,hb1,hb2⟩:=h.ex
 have hf:=mJ (P:=P) (w:=w) hk x hm
 have hg:(Sem.getObj b Sem.pure:Sem Obj).run P w = .ok (.map es c) w:=by simp [Sem.run,hh]
 have hlt:=h.lt
 have turn:∀ o:Obj,Turn [b] w { w with heap:=w.heap.setIfInBounds b o }:=fun o =>
  ⟨rfl,rfl,rfl,by simp,fun j hj hn=>by
   simp only [cZ] at hn
   simp only [dN (fun e:b=j=>hn e.symm)]⟩
 have hlen:es.size=m.length:=by have:=congrArg List.length hm;simpa using this
 unfold Instr.mapUpdate
 simp only [Sem.run_bind,run_underlying ht,Result.andThen,getObj,hg,lI hk,hf]
 cases hi:(m.findIdx? (fun p=>p.1 == x)) with
 | none =>
  have hno:mget m x=none:=by rw [oB,hi];rfl
  refine ⟨{ w with heap:=w.heap.setIfInBounds b (.map (es.push { key:=.int .i64 x,val:=v,born:=c }) (c+1)) },by simp [setObj,Sem.run,hh],⟨⟨es.push { key:=.int .i64 x,val:=v,born:=c },c+1,by simp [hlt], ?_, ?_, ?_⟩,pZ h.nodup⟩,by simp,turn _⟩
  ·simp [mput,hno,hm]
  ·simp only [Array.toList_push,bF,cR,List.map_nil]
   rw [cE]
   refine ⟨hb1,by simp,fun a ha a' ha' => ?_⟩
   simp only [aY] at ha
   obtain ⟨e,he,rfl⟩:=ha
   have:=hb2 e he
   simp at ha'
   omega
  intro e he
  simp only [Array.toList_push,aO,cZ] at he
  rcases he with he | rfl
  ·have:=hb2 e he;omega
  simp
 | some j =>
  obtain ⟨p,hp,hpk,hjl⟩:=xQ hi
  have hyes:(mget m x).isSome=true:=by rw [oB,hi,dK,hp];rfl
  have hje:j < es.size:=by omega
  have hkey:es[j].key = .int .i64 x:=by
   have h1:=congrArg (fun l=>l[j]?) hm
   simp only [aU,hp,cS,dY,bC hje,Option.some.injEq,Prod.mk.injEq] at h1
   rw [h1.1,hpk]
  simp only [dK,hp,cS]
  have hstay:(Instr.keyThatStays (((es[j]?).map (·.key)).getD (.int .i64 x)) (.int .i64 x)).run P w = .ok (.int .i64 x) w:=by
   rw [bC hje]
   simp only [cS,dA,hkey,Instr.keyThatStays]
   have:Instr.sameBits 10000 (.int .i64 x) (.int .i64 x)=true:=by simp [Instr.sameBits]
   simp [this,Sem.run_pure]
  refine ⟨{ w with heap:=w.heap.setIfInBounds b (.map (es.modify j fun e => { e with key:=.int .i64 x,val:=v }) c) }, ?_,⟨⟨es.modify j fun e => { e with key:=.int .i64 x,val:=v },c,by simp [hlt], ?_, ?_, ?_⟩,pZ h.nodup⟩,by simp,turn _⟩
  ·rw [Sem.run_bind,hstay]
   simp [Result.andThen,setObj,Sem.run,hh]
  ·simp only [mput,hyes,if_true]
   apply bN
   intro i
   simp only [aU,dY,cW,dP]
   have h1:=congrArg (fun l=>l[i]?) hm
   simp only [aU,dY] at h1
   by_cases e:j=i
   ·subst e
    simp only [if_true,hp,cS,bC hje,Function.comp,hpk]
   rw [if_neg e,h1]
   cases hmi:m[i]? with
   | none=>rfl
   | some p2 =>
    simp only [cS,Function.comp]
    have hne:p2.1 ≠ x:=fun e2=>by
     have hnd:=h.nodup
     have a1:(m.map (·.1))[i]? = some x:=by simp [hmi,e2]
     have a2:(m.map (·.1))[j]? = some x:=by simp [hp,hpk]
     have hil:=(aE.1 a1).1
     exact e ((List.getElem?_inj (by simpa using hjl) hnd).1 (a2.trans a1.symm))
    rw [if_neg hne]
  ·have:(es.modify j fun e => { e with key:=.int .i64 x,val:=v }).toList.map (·.born)=es.toList.map (·.born):=by
    apply bN
    intro i
    simp only [aU,dY,cW]
    by_cases e:j=i
    ·subst e;simp only [if_true,bC hje,cS]
    ·rw [if_neg e]
   rw [this];exact hb1
  intro e he
  obtain ⟨i,hi2⟩:=bJ.1 he
  simp only [dY,cW] at hi2
  by_cases ej:j=i
  ·subst ej
   rw [if_pos rfl,bC hje] at hi2
   simp at hi2
   rw [<-hi2]
   exact hb2 es[j] (by simp)
  rw [if_neg ej] at hi2
  exact hb2 e (List.mem_iff_getElem?.2 ⟨i,by simpa using hi2⟩)
theorem IMap.len {t k e:TypeId} {b:Nat} {m:List (Int × Value)} (h:IMap w b m) (ht:P.underlying t=some (.map k e)) (ty:TypeId):(Builtin.len_ #[t] ty #[.map (some b)]).run P w = .ok (.int .i64 m.length) w:=by
 obtain ⟨es,c,hh,hm,_⟩:=h.ex
 have hlen:es.size=m.length:=by have:=congrArg List.length hm;simpa using this
 have hg:(Sem.getObj b Sem.pure:Sem Obj).run P w = .ok (.map es c) w:=by simp [Sem.run,hh]
 simp [Builtin.len_,run_underlying ht,Sem.run_bind,Result.andThen,getObj,hg,goInt,hlen,Sem.run_pure]
variable {ops:Array Oper} {rest:List Oper} {o:Oper} {a:Act} {Q:Exit -> Act -> World -> Prop}
theorem fE (hg:o.guard=none) (m x:Operand) (t:TypeId) (hop:o.op=Op.lookup t m x true) {k e:TypeId} {q:IntKind} (ht:P.underlying t=some (.map k e)) (hk:P.underlying k=some (.int q)) {z:Value} (hz:(zeroValue e).run P w = .ok z w)
  {b:Nat} {mm:List (Int × Value)} (hm:a.eval m = .map (some b)) (h:IMap w b mm) {y:Int} (hx:a.eval x = .int .i64 y) (hK:wpList P ops Q rest (a.put o.dst (.tuple #[(mget mm y).getD z,.bool (mget mm y).isSome])) w):wpList P ops Q (o :: rest) a w:=by
 refine wpList_plain hg fun K' hK' => ?_
 unfold Oper.wp
 simp [execOp,hop,hm,hx,h.lookup ht hk hz y,Result.andThen]
 exact hK' _ _ hK
theorem fC (hg:o.guard=none) (m x u:Operand) (t:TypeId) (hop:o.op=Op.mapUpdate t m x u \/ o.op=Op.insert t m x u) {k e:TypeId} {q:IntKind} (ht:P.underlying t=some (.map k e)) (hk:P.underlying k=some (.int q))
  {b:Nat} {mm:List (Int × Value)} (hm:a.eval m = .map (some b)) (h:IMap w b mm) {y:Int} (hx:a.eval x = .int .i64 y)
  (hK:∀ w',IMap w' b (mput mm y (a.eval u)) -> w'.heap.size=w.heap.size -> Turn [b] w w' -> wpList P ops Q rest (a.put o.dst undef) w'):wpList P ops Q (o :: rest) a w:=by
 refine wpList_plain hg fun K' hK' => ?_
 obtain ⟨w',hrun,r1,r2,r3⟩:=h.update ht hk y (a.eval u)
 unfold Oper.wp
 rcases hop with hop | hop <;> simp [execOp,hop,hm,hx,hrun,Result.andThen] <;> exact hK' _ _ (hK w' r1 r2 r3)
end
def chk (vp vb:Value) (ar ce:Int) (bm:Nat):Array Value:=#[vp,.int .i64 ar,.int .i64 ce,vb,.map (some bm)]
theorem aCJ {w:World} {bc bm:Nat} {vp:Value} {ab:Option Addr} {nb cb:Nat} {ar ce:Int} (hb:Box w bc (chk vp (.slice ab nb cb) ar ce bm)) (b:Int) :
  Calls Tryz.prog 214 #[.pointer (some ⟨bc,0,none⟩),.int .i64 b] w fun e w'=>e = .returned (.bool (decide (0 <= b) && decide (b < nb)))/\w' = w:=by
 have c3:=hb.at 3 (v:=.slice ab nb cb) rfl
 clear hb
 cases h1:decide (0 <= b) <;> cases h2:decide (b < (nb:Int))
 all_goals
  go_enter Tryz.func214,Tryz.ntmps214
  go_wp2
  go_ret
  exact ⟨rfl,rfl⟩
theorem gT (w:World):(zeroValue 3).run Tryz.prog w = .ok (.int .i64 0) w:=by kernel_rfl
def fresh (np:Nat) (m:List (Int × Value)) (id:Int):Bool := !(mget m id).isSome && !decide (id < np) && decide (id < 1048576)
def DefR (np:Nat) (m:List (Int × Value)) (id t:Int) (bm:Nat) (w:World) (e:Ending) (w' : World):Prop :=
 e = .returned (.bool (fresh np m id))/\IMap w' bm (if fresh np m id then mput m id (.int .i64 t) else m)/\Turn [bm] w w'
theorem aAW {w:World} {bc bm:Nat} {ap:Option Addr} {np cp:Nat} {vb:Value} {ar ce:Int} {m:List (Int × Value)} (hb:Box w bc (chk (.slice ap np cp) vb ar ce bm)) (hm:IMap w bm m) (id t:Int) :
  Calls Tryz.prog 215 #[.pointer (some ⟨bc,0,none⟩),.int .i64 id,.int .i64 t] w (DefR np m id t bm w):=by
 have c0:=hb.at 0 (v:=.slice ap np cp) rfl
 have c4:=hb.at 4 (v:=.map (some bm)) rfl
 have HM:=h! hm
 clear hb hm
 cases h1:(mget m id).isSome <;> cases h2:decide (id < (np:Int)) <;> cases h3:decide (1048576 <= id)
 all_goals
  have HF:=h! (show fresh np m id=_ by unfold fresh;rw [h1,h2,show decide (id < 1048576) = !decide (1048576 <= id) by rw [cC];simp,h3])
  have H1:=h! h1
  clear h1
  go_enter Tryz.func215,Tryz.ntmps215
  go_wp2_with (first
   | (at_lookup;refine fE (q:=.i64) (z:=.int .i64 0) (b:=bm) (mm:=m) (y:=id) rfl _ _ _ rfl Tryz.underlying74 Tryz.underlying3 (gT _) rfl HM.out rfl ?_;rw [H1.out];generalize (mget m id).getD _=gv)
   | (at_mapUpdate;refine fC (q:=.i64) (b:=bm) (mm:=m) (y:=id) rfl _ _ _ _ (.inl rfl) Tryz.underlying74 Tryz.underlying3 rfl HM.out rfl ?_;intro w2 hm2 hz2 ht2;have HP:=h! hm2;have HT:=h! ht2;clear hm2 hz2 ht2))
  go_ret
  first
   | exact ⟨fS HF.out.symm,by rw [HF.out];exact HP.out,HT.out⟩
   | exact ⟨fS HF.out.symm,by rw [HF.out];exact HM.out,Turn.refl _ _⟩
theorem tZ (n:Int) (h0:0 <= n) (h1:n < 4294967296):bits .and .u64 n 4294967295=n:=by
 have h:=bits_mask .u64 63 (by decide) (fun n h0 h1=>by rw [IntKind.wrap_u64];omega) 32 (by decide) n (by omega) (by omega)
 have e:((2:Int) ^ 32 - 1)=4294967295:=by decide
 have e2:((2:Int) ^ 32)=4294967296:=by decide
 rw [e,e2] at h
 rw [h];omega
theorem aAX {w:World} (n:Int) (h0:0 <= n) (h1:n < 4294967296):Calls Tryz.prog 178 #[.int .u64 1,.int .u64 n] w fun e w'=>e = .returned (.tuple #[.int .u64 0,.int .u64 n])/\w' = w:=by
 have b1:=tZ 1 (by omega) (by omega)
 have b2:=tZ n h0 h1
 have b3:=tZ 0 (by omega) (by omega)
 have b4:n / 4294967296=0:=by omega
 go_enter Tryz.func178,Tryz.ntmps178
 go_wp2
 go_ret2
 exact ⟨rfl,rfl⟩
theorem mul_one {w:World} (n:Int) (h0:0 <= n) (h1:n < 4294967296):Calls Tryz.prog 116 #[.int .u64 1,.int .u64 n] w fun e w'=>e = .returned (.tuple #[.int .u64 0,.int .u64 n])/\w' = w:=by
 go_enter Tryz.func116,Tryz.ntmps116
 go_wp2_with fail
 refine (aAX n h0 h1).mono ?_
 rintro e w1 ⟨rfl,rfl⟩
 go_wp2
 go_ret2
 exact ⟨rfl,rfl⟩
theorem mA:Elem Tryz.prog 22 3 (.int .i64 0) 1 8:=pI Tryz.underlying22 (by kernel_rfl) rfl (by omega)
def rep (n m:Nat) (x:Int):List Value:=List.replicate m (.int .i64 x) ++ List.replicate (n - m) (.int .i64 0)
theorem aAY (n m:Nat) (x:Int) (h:m <= n):(rep n m x).length=n:=by simp [rep];omega
theorem aG1 {n m j:Nat} (x:Int) (h:j < m):(rep n m x)[j]? = some (.int .i64 x):=by
 unfold rep;rw [List.getElem?_append_left (by simpa using h)];simp [h]
theorem qA {n m k:Nat} (x:Int) (h:m+k <= n):splice (rep n m x) m (List.replicate k (.int .i64 x))=rep n (m+k) x:=by
 unfold splice rep
 rw [List.take_left' (by simp),List.drop_append,List.drop_eq_nil_of_le (by simp),dW,aV,aV,List.drop_replicate, <-List.append_assoc,List.replicate_append_replicate]
 congr 2;omega
theorem gE {P:Program} {w:World} {ops:Array Oper} {rest:List Oper} {o:Oper} {a:Act} {Q:Exit -> Act -> World -> Prop}
  (hg:o.guard=none) (l c:Operand) (t e:TypeId) (hop:o.op=Op.makeSlice t l c) (he:Elem P t e (.int .i64 0) 1 8)
  (n:Nat) {L C:Int} (hl:a.eval l = .int .i64 L) (hc:a.eval c = .int .i64 C) (hL:L=n) (hC:C=n) (hn:n <= 17592186044416)
  (hK:∀ w',Hid (w'.heap[w.heap.size]? = some (.cells (List.replicate n (Value.int .i64 0)).toArray e (0,0))) -> Below w.heap.size w w' -> wpList P ops Q rest (a.put o.dst (.slice (some ⟨w.heap.size,0,none⟩) n n)) w') :
  wpList P ops Q (o :: rest) a w:=by
 obtain ⟨ht,⟨i,hi,hz,hsz,hby⟩,hzc,hp⟩:=he
 refine wpList_make_full w hg l c t hop w.heap.size e i (.int .i64 0) 1 ht hi hz hsz .i64 .i64 L C n hl hc hL hC (by rw [hby];omega) (by unfold maxLen;omega) (aF _) fun w' h1 h2 => ?_
 refine hK w' ?_ ((Below.refl _ _).grown h2 (aF _) (by simp))
 rcases h1.2 with ⟨hh,_⟩ | ⟨g,cap,cur,hv,_,hh,_,_,hs,htk⟩
 ·cases hh
 ·cases hv
  rw [show (Value.int .i64 0).cells = #[.int .i64 0] from rfl,toList_madeCells_one,eF,aI (by simp;omega)] at htk
  show _=_
  rw [hh, <-htk]
theorem pA {w:World} {v:Value} {x:Int} {n:Nat} (hv:Ints w v [x]) (hn:n < 4294967296):Calls Tryz.prog 56 #[v,.int .i64 n] w fun e w' => ∃ u,e = .returned u/\New 3 w w' u (List.replicate n x)/\Below w.heap.size w w':=by
 obtain ⟨a,c,b,o,rfl,hc,hm,ha,hx⟩:=hv.parts
 have hx0:=h! (hv.2 x (by simp))
 obtain ⟨rfl,hbw⟩:=ha (by simp)
 have h0:=hx 0 (by simp)
 simp only [List.getD_cons_zero,bW] at h0
 have H0:=h! h0
 clear hv ha hx h0
 have hn0:(0:Int) <= (n:Int):=by omega
 have hn1:(n:Int) < 4294967296:=by omega
 have HN:=h! hn
 have HN1:=h! hn1
 clear hn hn1
 have hneg:decide ((n:Int) < 0)=false:=by simp
 have hu:IntKind.u64.wrap (n:Int)=n:=by rw [IntKind.wrap_u64];have:=HN1.out;omega
 have hi:IntKind.i64.wrap (n:Int)=n:=by rw [fR];unfold wrap64;have:=HN1.out;omega
 have hbig:decide ((9223372036854775807:Int) < n)=false:=by have:=HN1.out;simp;omega
 simp only [bB,cD,bH] at hc ⊢
 go_enter Tryz.func56,Tryz.ntmps56
 go_upto_region 3 with (fail)
 clear hneg
 go_upto_region 4 with (go_at_call 116;refine (mul_one n hn0 HN1.out).mono ?_;rintro e w0 ⟨rfl,hw0⟩;obtain rfl:=hw0.symm)
 go_upto_region 6 with (fail)
 clear hu hbig
 go_upto_region 7 with (at_make;refine gE rfl _ _ 22 3 rfl mA n rfl rfl rfl rfl (by have:=HN.out;omega) ?_;intro w1 hblk hb1;have HB:=hblk;have HW:=h! hb1;clear hblk hb1)
 replace HB:Hid (w1.heap[w.heap.size]? = some (.cells (rep n 0 x).toArray 3 (0,0))):=h! (by have:=HB.out;simpa [rep] using this)
 have hk1:min 1 n <= n:=by omega
 have HBK:Hid (∀ w',Below w1.heap.size w1 w' -> w'.heap[w.heap.size]? = some (.cells (rep n 0 x).toArray 3 (0,0))):=h! (fun w' hb=>by
  rw [hb.block _ ((aS.1 HB.out).1)];exact HB.out)
 refine gK 2 (fun _=>.plain) (by kernel_rfl) (by simp) (fun _=>trivial) (fun ν => ?_)
 simp only [aK,aR,aM,aT]
 refine Grow.val (v := ?_) rfl rfl (fun wg hbg hdg => ?_) ?_
 rotate_left
 focus (clear hbg hdg;first | (go_simp;done) | (go_simp;with_reducible rfl))
 simp only [Act.put,aA,aC,aD]
 refine Grow.val (v := ?_) rfl rfl (fun wg hbg hdg => ?_) ?_
 rotate_left
 focus (clear hbg hdg;first | (go_simp;done) | (go_simp;with_reducible rfl))
 simp only [Act.put,aA,aC,aD]
 intro wg hbg hf hap
 clear hf hap
 have HX:=h! (HBK.out wg hbg)
 replace HW:=h! (HW.out.trans (hbg.mono HW.out.size))
 clear hbg HBK HB
 refine wpList_copy_splice rfl (.tmp 31) (.tmp 32) 22 22 rfl 3 Tryz.underlying22 (by kernel_rfl) (some ⟨w.heap.size,0,none⟩) (some ⟨b,o,none⟩) n n 1 c rfl rfl w.heap.size 0 (rep n 0 x) 3 HX.out (List.replicate (min 1 n) (.int .i64 x)) (by simp) (fun hp=>⟨rfl,_,rfl,fun j v hj => ?_⟩) (by rw [aAY _ _ _ (aP _)];simp;omega) (fun v hv => ?_) w.heap.size w HW.out (aF _) ?_
 ·have hjl:=(aE.1 hj).1
  simp at hjl
  obtain rfl:j=0:=by omega
  have hv:=bX (aG hj)
  rw [add_zero,(HW.out.cell hbw).trans H0.out,hv]
 ·rw [bX hv];rfl
 intro w2 h2 hb2
 have HB2:Hid (w2.heap[w.heap.size]? = some (.cells (rep n (min 1 n) x).toArray 3 (0,0))):=h! (by have:=h2.out;rwa [qA x (by omega),bH] at this)
 have HW2:=h! hb2
 clear h2 hb2 HW HX
 rw [aV]
 have HK:=h! (show 0 < n -> 0 < min 1 n by omega)
 generalize min 1 n=m0 at *
 go_wp2
 go_loopw [8] (fun i wr => ∃ m:Nat,m <= n/\i = .int .i64 m/\(0 < n -> 0 < m)/\wr.heap[w.heap.size]? = some (.cells (rep n m x).toArray 3 (0,0))/\Below w.heap.size w wr) (fun i _=>n - (intOf i).toNat)
 case atStart=>exact ⟨m0,hk1,by simp [goInt],HK.out,HB2.out,HW2.out⟩
 obtain ⟨m,hm1,rfl,hm2,hB,hW⟩:=hrel
 have HB:=h! hB
 have HW:=h! hW
 have HM:=h! hm2
 clear hm2 hB hW HB2 HW2 HK
 by_cases hlt:m < n
 ·have hmp:=HM.out (by omega)
  have hm0:(0:Int) <= (m:Int):=by omega
  have hmn:(m:Int) <= (n:Int):=by omega
  have hne:(n=m)=False:=by simp;omega
  go_upto_region 9 with (fail)
  have HD:=h! HW.out.drew
  obtain ⟨q,hqd⟩ : ∃ q,q=min m (n - m):=⟨_,rfl⟩
  have HQD:=h! hqd
  have hq1:0 < q:=by omega
  have hq2:m+q <= n:=by omega
  have hq3:q <= m:=by omega
  have hs:IntKind.i64.wrap ((m:Int)+(q:Int))=(m:Int)+(q:Int):=by rw [fR];unfold wrap64;have:=HN1.out;omega
  clear hqd
  have hcell:∀ j,j < m -> wr.drew.cell? ⟨w.heap.size,j,none⟩=some (.int .i64 x):=fun j hj=>by
   have h2:=HB.out
   show World.cell? wr ⟨w.heap.size,j,none⟩=_
   simp only [World.cell?,h2]
   simpa using aG1 (n:=n) x hj
  have HCL:=h! hcell
  clear hcell
  go_region_law (refine step_copy_splice rfl (.tmp 41) (.tmp 44) 22 22 rfl 3 Tryz.underlying22 (by kernel_rfl) (some ⟨w.heap.size,m,none⟩) (some ⟨w.heap.size,0,none⟩) (n - m) (n - m) m n (by simp [Act.eval,Act.put]) (by simp [Act.eval,Act.put]) w.heap.size m (rep n m x) 3 HB.out (List.replicate q (.int .i64 x)) (by rw [aV];exact HQD.out) (fun hp=>⟨rfl,_,rfl,fun j v hj=>by
    have hjl:=(aE.1 hj).1
    have hv:=bX (aG hj)
    simp at hjl
    rw [sY,bH,hv];exact HCL.out j (by omega)⟩) (by rw [aAY _ _ _ hm1];simp;omega) (fun v hv=>by rw [bX hv];rfl) w.heap.size w HD.out (aF _) ?_;intro w4 hg4 hb4;have HB4:=h! (qA (n:=n) (m:=m) (k:=q) x hq2 ▸ hg4.out);have HW4:=h! hb4;clear hg4 hb4;rw [aV])
  clear HCL HB HW HD
  simp only [Act.put,List.getElem_toArray,List.getElem_cons_succ,List.getElem_cons_zero,aA,aC,aD]
  go_wp2
  go_roundw
  case rel=>exact ⟨m+q,hq2,by go_num,fun _=>by omega,HB4.out,HW4.out⟩
  simp [intOf];omega
 obtain rfl:m=n:=by omega
 go_wp2
 go_ret
 refine ⟨_,rfl,⟨⟨by simp,.inr ⟨w.heap.size,m,_,by simp,aF _,HB.out,by simp,by have:=HN.out;unfold maxLen;omega,by simp [rep],by simp [rep]⟩⟩,by have:=HN.out;simp;omega,fun y hy=>by rw [bX hy];exact hx0.out⟩,HW.out⟩
end Go.Proofs.YtcmflfkpeodicaaGreat
