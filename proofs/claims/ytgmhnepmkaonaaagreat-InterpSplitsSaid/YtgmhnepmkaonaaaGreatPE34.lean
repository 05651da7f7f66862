/- Part 34. -/
import Derived.Test.YtgmhnepmkaonaaaGreatPE23
import Derived.Test.YtgmhnepmkaonaaaGreatPE33
import Derived.Test.YtgmhnepmkaonaaaGreatPE24
import Derived.Test.YtgmhnepmkaonaaaGreatPE27
import Derived.Test.YtgmhnepmkaonaaaGreatPE31
namespace Go.Proofs.YtgmhnepmkaonaaaGreat
set_option linter.all false
open Go.RowKit
def mT:FuncD:=⟨[],0,0,[]⟩
def aEL (f:FuncD) (b k:Nat) (t:Int):Bool:=((f.blocks.getD b default).term.to.set k (f.blocks.length:Int)).contains t
def gY (f:FuncD) (b k:Int):FuncD × Int :=
 if d7 f ≠ 0 then (mT,d7 f) else
 if ¬ (0 <= b/\b < f.blocks.length/\0 <= k/\k < (f.blocks.getD b.toNat default).term.to.length) then (mT,9) else
 if f.blocks.length=512 \/ jF f=4096 then (mT,2) else
 (eZ f b.toNat k.toNat ((f.blocks.getD b.toNat default).term.to.getD k.toNat 0).toNat (aEL f b.toNat k.toNat ((f.blocks.getD b.toNat default).term.to.getD k.toNat 0)),0)
theorem wK {f:FuncD} {b k:Int} (h:d7 f ≠ 0):gY f b k=(mT,d7 f):=by unfold gY;rw [if_pos h]
theorem kQ {f:FuncD} {b k:Int} (h:d7 f=0) (h2:b < 0 \/ (f.blocks.length:Int) <= b \/ k < 0 \/ ∃ x,f.blocks[b.toNat]? = some x/\(x.term.to.length:Int) <= k):gY f b k=(mT,9):=by
 unfold gY
 rw [if_neg (by simp [h]),if_pos]
 rintro ⟨q1,q2,q3,q4⟩
 rcases h2 with h2 | h2 | h2 | ⟨x,hx,h2⟩
 ·omega
 ·omega
 ·omega
 rw [aH,hx] at q4
 simp only [dI] at q4
 omega
theorem getD_some {α : Type} {l:List α} {i:Nat} {x d : α} (h:l[i]? = some x):l.getD i d=x:=by rw [aH,h];rfl
theorem mF {f:FuncD} {b k:Nat} {x:BlockD} (h:d7 f=0) (hx:f.blocks[b]? = some x) (hk:k < x.term.to.length) (h2:f.blocks.length=512 \/ jF f=4096):gY f b k=(mT,2):=by
 have hl:=(aD.1 hx).1
 unfold gY
 rw [if_neg (by simp [h]),if_neg,if_pos h2]
 rw [cH,getD_some hx]
 intro hc
 exact hc ⟨by omega,by omega,by omega,by omega⟩
theorem rV {f:FuncD} {b k:Nat} {x:BlockD} {t:Nat} (h:d7 f=0) (hx:f.blocks[b]? = some x) (hk:x.term.to[k]? = some (t:Int)) (h2:f.blocks.length ≠ 512) (h3:jF f ≠ 4096) :
  gY f b k=(eZ f b k t ((x.term.to.set k (f.blocks.length:Int)).contains (t:Int)),0):=by
 have hl:=(aD.1 hx).1
 have hkl:=(aD.1 hk).1
 unfold gY aEL
 rw [cH,cH,getD_some hx,getD_some hk,cH,if_neg (by simp [h]),if_neg,if_neg (by omega)]
 intro hc
 exact hc ⟨by omega,by omega,by omega,by omega⟩
theorem lW {α : Type} {l:List α} {i:Nat} {x : α} (g : α -> α) (h:l[i]? = some x):l.modify i g=l.set i (g x):=by
 apply bJ
 intro j
 rw [dQ,bP]
 by_cases e:i=j
 ·subst e
  have:=(aD.1 h).1
  rw [h,if_pos rfl,if_pos this];simp
 simp [e]
theorem tR {f:FuncD} {b k t:Nat} {x y:BlockD} (hx:f.blocks[b]? = some x) (hy:(f.blocks.set b (fR k f.blocks.length x))[t]? = some y) (still:Bool) :
  (eZ f b k t still).blocks=(f.blocks.set b (fR k f.blocks.length x)).set t (jE b f.blocks.length still y) ++ [nH t]:=by
 unfold eZ
 simp only
 rw [lW _ hx,lW _ hy]
def upTo {α : Type} (g : α -> α) (l:List α) (i:Nat):List α := (l.take i).map g ++ l.drop i
theorem aAB {α : Type} (g : α -> α) (l:List α):upTo g l 0=l:=by simp [upTo]
theorem aC1 {α : Type} (g : α -> α) (l:List α):upTo g l l.length=l.map g:=by simp [upTo]
theorem aC2 {α : Type} (g : α -> α) (l:List α) (i:Nat):(upTo g l i).length=l.length:=by simp [upTo];omega
theorem aE8 {α : Type} {g : α -> α} {l:List α} {i:Nat} {x : α} (h:l[i]? = some x):(upTo g l i)[i]? = some x/\(upTo g l i).set i (g x)=upTo g l (i+1):=by
 have hl:=(aD.1 h).1
 have ht:((l.take i).map g).length=i:=by rw [bI,bA];omega
 have hd:l.drop i=x :: l.drop (i+1):=by rw [<-(aD.1 h).2];exact eK hl
 unfold upTo
 constructor
 ·rw [bX (by omega),ht,dT,hd];rfl
 rw [List.set_append_right _ _ (by omega),ht,dT,hd,aE,cA,h,eB,bF,bV];rfl
theorem Off.grow {S S' : Foot} {A B C:World} (h:Off S A B) (k:Off S' B C) (hs:∀ q,S' q -> S q \/ A.heap.size <= q):Off S A C :=
 ⟨k.os.trans h.os,k.tape.trans h.tape,k.output.trans h.output,aP h.size k.size,fun i hi hn=>(k.block i (bH hi h.size) fun hm=>(hs i hm).elim hn (fun h=>by omega)).trans (h.block i hi hn)⟩
theorem OFunc.zero {W:World}:OFunc W Foot.none (.agg #[.slice none 0 0,.int .i64 0,.int .i64 0,.slice none 0 0]) mT :=
 ⟨⟨_,_,Foot.none,Foot.none,rfl,eV.nil none,OSl.nil none,fun _ h=>h.elim,fun _ h=>h.elim,fun _ h=>h.elim⟩,fun _ h=>h.elim,⟨by decide,by decide⟩,⟨by decide,by decide⟩⟩
theorem eV.narrow {W:World} {S:Foot} {xs:List Int} {g cap n:Nat} (h:eV W S (.slice (some ⟨g,0,none⟩) n cap) xs) (hn:0 < xs.length):eV W (Foot.one g) (.slice (some ⟨g,0,none⟩) n cap) xs/\S g:=by
 obtain ⟨⟨h1,h2,h3,h4⟩,h5⟩:=h
 rcases h4 with ⟨h4,_⟩ | ⟨g',cap',cur,hv,hg,r⟩
 ·omega
 cases hv
 exact ⟨⟨⟨h1,h2,fun k hk=>by cases hk;exact h3 g hg,.inr ⟨g,cap,cur,rfl,rfl,r⟩⟩,h5⟩,hg⟩
theorem wL {w:World} {o:Oper} {a:Act} (s x:Operand)
  (ho:o.op = .call { callee:=.builtin .append,args:=#[s,x],argTypes:=#[22,22] }) {v:Value} {B:Nat} {y:Int} (hs:a.eval s=v) (hx:a.eval x = .slice (some ⟨B,0,none⟩) 1 1) {S:Foot} {xs:List Int} {n:Nat} (hn:xs.length=n)
  (H:eV w S v xs) (hB:Box w B #[.int .i64 y]) (hy:In64 y) (hlen:n+1 <= 100000) {XF:Nat -> Foot} {i:Nat} (hX:∀ k,S k -> XF i k) :
  ∃ u w'',(execOp a.eval o).run Tryz.prog w = .ok (.value u) w'' /\ (∃ g cap,u = .slice (some ⟨g,0,none⟩) (n+1) cap/\eV w'' (Foot.one g) u (xs ++ [y])/\(S g \/ w.heap.size <= g))/\Four.Step XF (fun _=>True) i w w'':=by
 obtain ⟨v',w',G',hrun,r1,r2,r3, -⟩:=tH (P:=Tryz.prog) s x 22 3 ho mL hs hx H.1 (rL (n:=1) (size:=1) (ds:=[.int .i64 y]) hB rfl (by omega)) (by intro u hu;simp at hu;subst hu;rfl) (by omega) (by omega)
 have hO:eV w' G' v' (xs ++ [y]):=by
  refine ⟨?_,fun z hz => ?_⟩
  ·rw [aM,bF];exact r1
  rcases aK.1 hz with h | h
  ·exact H.2 z h
  simp at h;subst h;exact hy
 obtain ⟨g,cap,rfl,hg, -⟩:=hO.1.addr (by simp)
 have hl:(xs ++ [y]).length=n+1:=by simp [hn]
 rw [hl] at hO hrun
 obtain ⟨k1,k2⟩:=hO.narrow (by omega)
 exact ⟨_,w',hrun,⟨g,cap,rfl,k1,r2 g k2⟩,r3.mono fun k _ hk=>hX k hk,fun h=>h⟩
theorem mG {w:World} {o:Oper} {a:Act} (s x:Operand)
  (ho:o.op = .call { callee:=.builtin .append,args:=#[s,x],argTypes:=#[22,22] }) {v:Value} {B:Nat} {y:Int} (hs:a.eval s=v) (hx:a.eval x = .slice (some ⟨B,0,none⟩) 1 1) {S:Foot} {xs:List Int} {n:Nat} (hn:xs.length=n)
  (H:eV w S v xs) (hB:Box w B #[.int .i64 y]) (hy:In64 y) (hlen:n+1 <= 100000) {XF:Nat -> Foot} {i:Nat} (hX:∀ k,S k -> XF i k) {Z:Value -> World -> Prop}
  (hZ:∀ g cap w'',eV w'' (Foot.one g) (.slice (some ⟨g,0,none⟩) (n+1) cap) (xs ++ [y]) -> (S g \/ w.heap.size <= g) -> Z (.slice (some ⟨g,0,none⟩) (n+1) cap) w'') :
  ∃ u w'',(execOp a.eval o).run Tryz.prog w = .ok (.value u) w'' /\ Z u w'' /\ Four.Step XF (fun _=>True) i w w'':=by
 obtain ⟨u,w'',h1,⟨g,c,e,h2,h3⟩,h4⟩:=wL (XF:=XF) (i:=i) s x ho hs hx hn H hB hy hlen hX
 subst e
 exact ⟨_,w'',h1,hZ g c w'' h2 h3,h4⟩
theorem aC3 (W:World) (o:Obj) (A:Array Value) (T:TypeId):Box ((W.alloc o).alloc (.cells A T)) (W.heap.size+1) A:=by simpa using Box.new (W.alloc o) A T
theorem wM {w:World} {t:Int} (ht:In64 t) (o:Obj):OBlock ((w.alloc (.cells #[.int .i64 t] 3)).alloc o) (Foot.one w.heap.size) [.slice none 0 0,.slice none 0 0,.int .i64 1,.int .i64 (-1),.slice (some ⟨w.heap.size,0,none⟩) 1 1,.int .i64 0] (nH t):=by
 have hl:∀ k,Foot.one w.heap.size k -> k < ((w.alloc (.cells #[.int .i64 t] 3)).alloc o).heap.size:=fun k hk=>by cases hk;simp;omega
 have hrow:ORow ((w.alloc (.cells #[.int .i64 t] 3)).alloc o) (Foot.one w.heap.size) 3 1 (.slice (some ⟨w.heap.size,0,none⟩) 1 1) 1 [.int .i64 t]:=by
  refine ⟨rfl,by omega,hl,.inr ⟨w.heap.size,1,#[.int .i64 t],rfl,rfl, ?_,aB _,by unfold maxLen;omega,rfl,rfl⟩⟩
  show ((w.heap.push (.cells #[.int .i64 t] 3)).push o)[w.heap.size]? = _
  rw [Array.getElem?_push,if_neg (by rw [Array.size_push];omega),Array.getElem?_push,if_pos rfl]
 refine ⟨⟨_,_,_,Foot.none,Foot.none,Foot.one w.heap.size,rfl,OSl.nil none,OSl.nil none,⟨⟨_,rfl,hrow,fun x hx => ?_⟩,(show In64 1 from ⟨by decide,by decide⟩),(show In64 (-1) from ⟨by decide,by decide⟩),(show In64 0 from ⟨by decide,by decide⟩)⟩,fun _ h=>h.elim,fun _ h=>h.elim,fun _ h=>h.elim,fun _ h=>h.elim,fun _ h=>h.elim,fun _ h=>h⟩,hl⟩
 have:x=t:=by simpa [nH] using hx
 rw [this];exact ht
theorem Off.cell {S:Foot} {W W' : World} (h:Off S W W') {b o:Nat} (hl:b < W.heap.size) (hn:¬ S b):W'.cell? ⟨b,o,none⟩=W.cell? ⟨b,o,none⟩:=World.cell?_of_block (w:=W) (a:=⟨b,o,none⟩) (h.block b hl hn)
theorem qU {α : Type} {l:List α} {i:Nat} {x : α} (h:l[i]? = some x):l.set i x=l:=by
 apply bJ
 intro j
 rw [bP]
 have:=(aD.1 h).1
 by_cases e:i=j
 ·subst e;rw [if_pos rfl,if_pos this,h]
 rw [if_neg e]
theorem rW {b n:Int} {still:Bool} {p:PhiD} (h:b ∉ p.src):fD b n still p=p:=if_neg h
theorem pQ {b n:Int} {p:PhiD} (h:b ∈ p.src):fD b n true p = { p with src:=p.src ++ [n],vals:=p.vals ++ [p.vals.getD (p.src.idxOf b) 0] }:=by unfold fD;rw [if_pos h,if_pos rfl]
theorem rX {b n:Int} {p:PhiD} (h:b ∈ p.src):fD b n false p = { p with src:=p.src.set (p.src.idxOf b) n,vals:=p.vals }:=by unfold fD;rw [if_pos h];rfl
theorem u5 {xs:List Int} {x:Int} (h:x ∈ xs):idxI xs x=(xs.idxOf x:Nat):=if_pos h
def aG6 (f:FuncD) (b k:Int) (w:World) (e:Ending) (w' : World):Prop := ∃ v S,e = .returned (.tuple #[v,.int .i64 (gY f b k).2])/\OFunc w' S v (gY f b k).1/\lV w.heap.size S/\Below w.heap.size w w'
theorem oR {f:FuncD} (hc:d7 f=0):(∀ x ∈ f.blocks,x.phis.length <= 100000/\x.code.length <= 100000)/\f.blocks.length <= 100000:=by
 have hf:=(eX hc).1
 have hs:=(jC hf).size
 have hn:=(gU hf).2
 refine ⟨fun x hx => ?_,by omega⟩
 have h1:gD x <= jF f:=by
  unfold jF
  have:∀ (l:List BlockD),x ∈ l -> gD x <= (l.map gD).sum/\0 <= (l.map gD).sum:=by
   intro l
   induction l with
   | nil=>intro h;cases h
   | cons y l ih =>
    intro h
    have hy:0 <= gD y:=by unfold gD;omega
    have hnn:∀ (l:List BlockD),0 <= (l.map gD).sum:=by
     intro l
     induction l with
     | nil=>simp
     | cons z l ih=>have:0 <= gD z:=(by unfold gD;omega);simp only [cQ,List.sum_cons];omega
    have:=hnn l
    simp only [cQ,List.sum_cons]
    rcases bN.1 h with rfl | h
    ·omega
    have:=(ih h).1;omega
  exact (this _ hx).1
 unfold gD at h1
 omega
theorem Off.frozen2 {S:Foot} {W W' : World} (h:Off S W W') {p:Addr} (hl:p.block < W.heap.size) (hn:¬ S p.block):W'.frozen? p=W.frozen? p:=World.frozen?_of_block (w:=W) (h.block p.block hl hn)
theorem Off.cell2 {S:Foot} {W W' : World} (h:Off S W W') {p:Addr} (hl:p.block < W.heap.size) (hn:¬ S p.block):W'.cell? p=W.cell? p:=World.cell?_of_block (w:=W) (h.block p.block hl hn)
def OLis (W:World) (S:Foot) (cs:List Value) (xs:List Int):Prop := ∃ v,cs=[v]/\eV W S v xs
theorem OLis.nice:Nice OLis where
 keep:=fun ⟨v,e,h⟩ hk=>⟨v,e,h.keep hk⟩
 lt:=fun ⟨v,e,h⟩=>h.lt
 wide:=fun ⟨v,e,h⟩ hs hl=>⟨v,e,h.wide hs hl⟩
abbrev kF:=OSl OLis 22 1
theorem aIL:Elem Tryz.prog 42 22 (.slice none 0 0) 1 24:=lN Tryz.underlying42 (by kernel_rfl) rfl (by omega)
theorem kF.open {W:World} {S:Foot} {v:Value} {xs:List (List Int)} (h:kF W S v xs) {n:Nat} {a:List Int} (hn:xs[n]? = some a) :
  ∃ (ga cap c:Nat) (ad:Option Addr),v = .slice (some ⟨ga,0,none⟩) xs.length cap/\ga < W.heap.size/\S ga/\W.cell? ⟨ga,n,none⟩=some (.slice ad a.length c)/\Ints W (.slice ad a.length c) a /\
   ∀ i x,a[i]? = some x -> ∃ g,ad=some ⟨g,0,none⟩/\S g/\g < W.heap.size/\g ≠ ga/\W.cell? ⟨g,i,none⟩=some (.int .i64 x)/\(∀ o,W.frozen? ⟨g,o,none⟩=false) /\
    ∀ y,In64 y -> kF (W.setCell ⟨g,i,none⟩ (.int .i64 y)) S v (xs.set n (a.set i y)):=by
 obtain ⟨cs,G,F,hp⟩:=h
 have hnl:=(aD.1 hn).1
 obtain ⟨ga,cap,hv,hG, -, -,hgl,hcell,hfr⟩:=hp.row.addr (by omega)
 obtain ⟨u,hu,ho⟩:=hp.el n a hn
 obtain ⟨ad,c,rfl⟩:=ho.ints.form
 have hc0:cs[n]? = some (.slice ad a.length c):=by
  have h1:=l6 (cs:=cs) (size:=1) (j:=n) (i:=0) (by omega)
  rw [hu] at h1
  simpa using h1.symm
 refine ⟨ga,cap,c,ad,hv,hgl,hp.inG _ hG,hcell n _ hc0,ho.ints,fun i x hi => ?_⟩
 obtain ⟨g,cap2,hg,hFg,hgl2,hci,hfi,hset⟩:=ho.addr hi
 have e:ad=some ⟨g,0,none⟩:=by injection hg
 have hne:g ≠ ga:=fun e2=>hp.free n hnl g hFg (by rw [e2];exact hG)
 refine ⟨g,e,hp.inF n g hnl hFg,hgl2,hne,hci,hfi,fun y hy => ?_⟩
 have hoff:=Off.set W ⟨g,i,none⟩ (.int .i64 y)
 refine ⟨cs,G,_,hp.put OLis.nice hn (a.set i y) (Fj:=F n) (hoff.mono fun k _ hk=>by cases hk;exact .inr hFg) (hp.row.off hoff fun k h1 h2=>by cases h2;exact hp.free n hnl _ hFg h1) (fun _ _ _=>rfl) ⟨_,hu,hset y hy⟩ (fun k hk=>.inl hk) S (fun k hk=>hk) (fun k hk=>hp.inF n k hnl hk) (fun k hk=>by simpa [World.setCell] using hp.lt k hk)⟩
structure MachP (base bs fuel:Nat) (W:World) (bm:Nat) (s:RunS) (o:OverD) (ov av vv cv:Value) (mv:Nat) (m:List (Int × Value)) (F:Nat -> Foot):Prop where
 box:Box W bm #[.int .i64 o.how,.int .i64 o.value,.int .i64 o.trap,ov,av,.int .i64 s.steps,.int .i64 s.checks,vv,.pointer (some ⟨bs,0,none⟩),.int .i64 fuel,.map (some mv),cv]
 b0:∀ k,F 0 k ↔ k=bm
 out:eV W (F 1) ov s.out
 arr:kF W (F 2) av s.arrays
 vis:eV W (F 3) vv (natI s.visits)
 mp:IMap W mv m
 m4:∀ k,F 4 k ↔ k=mv
 val:∀ id,(mget m id).getD (.int .i64 0) = .int .i64 (s.vals id)
 cel:eV W (F 5) cv s.cells
 v64:∀ id,In64 (s.vals id)
 apart:∀ i j,i ≠ j -> (F i).off (F j)
 six:∀ i k,F i k -> i < 6
 base:∀ i k,F i k -> base <= k
theorem MachP.lt {base bs fuel:Nat} {W:World} {bm:Nat} {s:RunS} {o:OverD} {ov av vv cv:Value} {mv:Nat} {m:List (Int × Value)} {F:Nat -> Foot} (h:MachP base bs fuel W bm s o ov av vv cv mv m F) {i k:Nat} (hk:F i k):k < W.heap.size:=by
 have h6:=h.six i k hk
 rcases i with _ | _ | _ | _ | _ | _ | i
 ·rw [(h.b0 k).1 hk];exact h.box.lt
 ·exact h.out.lt k hk
 ·exact h.arr.lt k hk
 ·exact h.vis.lt k hk
 ·rw [(h.m4 k).1 hk];exact h.mp.lt
 ·exact h.cel.lt k hk
 omega
theorem MachP.keep {base bs fuel:Nat} {W W' : World} {bm:Nat} {s:RunS} {o:OverD} {ov av vv cv:Value} {mv:Nat} {m:List (Int × Value)} {F:Nat -> Foot} (h:MachP base bs fuel W bm s o ov av vv cv mv m F) {D:Foot} (ho:Off D W W') (hD:∀ i k,F i k -> ¬ D k):MachP base bs fuel W' bm s o ov av vv cv mv m F :=
 ⟨h.box.off ho (hD 0 _ ((h.b0 _).2 rfl)),h.b0,h.out.off ho (hD 1),h.arr.off OLis.nice ho (hD 2),h.vis.off ho (hD 3),h.mp.keep (ho.block _ h.mp.lt (hD 4 _ ((h.m4 _).2 rfl))),h.m4,h.val,h.cel.off ho (hD 5),h.v64,h.apart,h.six,h.base⟩
theorem MachP.later {base bs fuel:Nat} {W W' : World} {bm:Nat} {s:RunS} {o:OverD} {ov av vv cv:Value} {mv:Nat} {m:List (Int × Value)} {F:Nat -> Foot} (h:MachP base bs fuel W bm s o ov av vv cv mv m F) (hb:Below W.heap.size W W'):MachP base bs fuel W' bm s o ov av vv cv mv m F :=
 h.keep (Off.of_below hb Foot.none) fun _ _ _ h=>h
theorem MachP.put {base bs fuel:Nat} {W:World} {bm:Nat} {s s' : RunS} {o o' : OverD} {ov av vv cv ov' av' vv' cv' : Value} {mv:Nat} {m:List (Int × Value)} {F:Nat -> Foot} (h:MachP base bs fuel W bm s o ov av vv cv mv m F) (i:Nat) (v:Value)
  (hb:#[Value.int .i64 o.how,.int .i64 o.value,.int .i64 o.trap,ov,av,.int .i64 s.steps,.int .i64 s.checks,vv,.pointer (some ⟨bs,0,none⟩),.int .i64 fuel,.map (some mv),cv].setIfInBounds i v = #[.int .i64 o'.how,.int .i64 o'.value,.int .i64 o'.trap,ov',av',.int .i64 s'.steps,.int .i64 s'.checks,vv',.pointer (some ⟨bs,0,none⟩),.int .i64 fuel,.map (some mv),cv'])
  (ho:eV W (F 1) ov' s'.out) (ha:kF W (F 2) av' s'.arrays) (hv:eV W (F 3) vv' (natI s'.visits)) (hc:eV W (F 5) cv' s'.cells) (hs:s'.vals=s.vals):MachP base bs fuel (W.setCell ⟨bm,i,none⟩ v) bm s' o' ov' av' vv' cv' mv m F:=by
 have hoff:=Off.set W ⟨bm,i,none⟩ v
 have hne:∀ j k,j ≠ 0 -> F j k -> ¬ Foot.one bm k:=fun j k hj hk e=>h.apart j 0 hj k hk ((h.b0 k).2 e)
 have hbx:=h.box.set i v
 rw [hb] at hbx
 exact ⟨hbx,h.b0,ho.off hoff (fun k=>hne 1 k (by omega)),ha.off OLis.nice hoff (fun k=>hne 2 k (by omega)),hv.off hoff (fun k=>hne 3 k (by omega)),h.mp.keep (hoff.block _ h.mp.lt (hne 4 _ (by omega) ((h.m4 _).2 rfl))),h.m4,by rw [hs];exact h.val,hc.off hoff (fun k=>hne 5 k (by omega)),by rw [hs];exact h.v64,h.apart,h.six,h.base⟩
def newF (F:Nat -> Foot) (i:Nat) (G:Foot) (j:Nat):Foot:=if j=i then G else F j
theorem mH (F:Nat -> Foot) (i:Nat) (G:Foot):newF F i G i=G:=by unfold newF;rw [if_pos rfl]
theorem gN (F:Nat -> Foot) (i:Nat) (G:Foot) {j:Nat} (h:j ≠ i):newF F i G j=F j:=by unfold newF;rw [if_neg h]
theorem nO {F:Nat -> Foot} {i:Nat} {G:Foot} {n:Nat} (h:∀ i j,i ≠ j -> (F i).off (F j)) (hl:∀ i k,F i k -> k < n) (hG:∀ k,G k -> F i k \/ n <= k):∀ a b,a ≠ b -> (newF F i G a).off (newF F i G b):=by
 intro a b hab k h1 h2
 unfold newF at h1 h2
 by_cases ha:a=i
 ·rw [if_pos ha] at h1
  rw [if_neg (fun e=>hab (ha.trans e.symm))] at h2
  rcases hG k h1 with h3 | h3
  ·exact h i b (fun e=>hab (ha.trans e)) k h3 h2
  have:=hl b k h2;omega
 rw [if_neg ha] at h1
 by_cases hb:b=i
 ·rw [if_pos hb] at h2
  rcases hG k h2 with h3 | h3
  ·exact h a i ha k h1 h3
  have:=hl a k h1;omega
 rw [if_neg hb] at h2
 exact h a b hab k h1 h2
theorem MachP.turn {base bs fuel:Nat} {W W' : World} {bm:Nat} {s s' : RunS} {o:OverD} {ov av vv cv:Value} {mv:Nat} {m m' : List (Int × Value)} {F:Nat -> Foot} (h:MachP base bs fuel W bm s o ov av vv cv mv m F) (i:Nat) (hi:i < 6) (h0:i ≠ 0) {G:Foot} (ho:Off (F i) W W') (hG:∀ k,G k -> F i k \/ W.heap.size <= k) (hB:base <= W.heap.size) (h4:i=4 -> ∀ k,G k ↔ k=mv)
  (hst:s'.steps=s.steps/\s'.checks=s.checks)
  (h1:if i=1 then eV W' G ov s'.out else s'.out=s.out) (h2:if i=2 then kF W' G av s'.arrays else s'.arrays=s.arrays) (h3:if i=3 then eV W' G vv (natI s'.visits) else s'.visits=s.visits) (h5:if i=5 then eV W' G cv s'.cells else s'.cells=s.cells)
  (hm:if i=4 then IMap W' mv m' /\ (∀ id,(mget m' id).getD (.int .i64 0) = .int .i64 (s'.vals id))/\(∀ id,In64 (s'.vals id)) else m' = m/\s'.vals=s.vals):MachP base bs fuel W' bm s' o ov av vv cv mv m' (newF F i G):=by
 have hne:∀ j,j ≠ i -> (F j).off (F i):=fun j hj=>h.apart j i hj
 refine ⟨by rw [hst.1,hst.2];exact h.box.off ho (fun e=>h.apart 0 i (Ne.symm h0) _ ((h.b0 _).2 rfl) e),by rw [gN F i G (Ne.symm h0)];exact h.b0, ?_, ?_, ?_, ?_, ?_, ?_, ?_, ?_,nO h.apart (fun _ _ hk=>h.lt hk) hG, ?_, ?_⟩
 ·by_cases e:i=1
  ·rw [if_pos e] at h1;subst e;rw [mH];exact h1
  rw [if_neg e] at h1;rw [gN F i G (Ne.symm e),h1];exact h.out.off ho (hne 1 (Ne.symm e))
 ·by_cases e:i=2
  ·rw [if_pos e] at h2;subst e;rw [mH];exact h2
  rw [if_neg e] at h2;rw [gN F i G (Ne.symm e),h2];exact h.arr.off OLis.nice ho (hne 2 (Ne.symm e))
 ·by_cases e:i=3
  ·rw [if_pos e] at h3;subst e;rw [mH];exact h3
  rw [if_neg e] at h3;rw [gN F i G (Ne.symm e),h3];exact h.vis.off ho (hne 3 (Ne.symm e))
 ·by_cases e:i=4
  ·rw [if_pos e] at hm;exact hm.1
  rw [if_neg e] at hm;rw [hm.1];exact h.mp.keep (ho.block _ h.mp.lt (fun hk=>h.apart 4 i (Ne.symm e) _ ((h.m4 _).2 rfl) hk))
 ·by_cases e:i=4
  ·subst e;rw [mH];exact h4 rfl
  rw [gN F i G (Ne.symm e)];exact h.m4
 ·by_cases e:i=4
  ·rw [if_pos e] at hm;exact hm.2.1
  rw [if_neg e] at hm;rw [hm.1,hm.2];exact h.val
 ·by_cases e:i=5
  ·rw [if_pos e] at h5;subst e;rw [mH];exact h5
  rw [if_neg e] at h5;rw [gN F i G (Ne.symm e),h5];exact h.cel.off ho (hne 5 (Ne.symm e))
 ·by_cases e:i=4
  ·rw [if_pos e] at hm;exact hm.2.2
  rw [if_neg e] at hm;rw [hm.2];exact h.v64
 ·intro j k hk
  unfold newF at hk
  by_cases e:j=i
  ·omega
  rw [if_neg e] at hk;exact h.six j k hk
 ·intro j k hk
  unfold newF at hk
  by_cases e:j=i
  ·rw [if_pos e] at hk
   rcases hG k hk with h9 | h9
   ·exact h.base i k h9
   omega
  rw [if_neg e] at hk;exact h.base j k hk
def Mach (base bs fuel:Nat) (W:World) (bm:Nat) (D:Foot) (s:RunS):Prop := ∃ (ov av vv cv:Value) (mv:Nat) (m:List (Int × Value)) (F:Nat -> Foot),MachP base bs fuel W bm s ⟨0,0,0⟩ ov av vv cv mv m F /\ ∀ k,D k ↔ ∃ i,F i k
theorem MachP.mach {base bs fuel:Nat} {W:World} {bm:Nat} {s:RunS} {ov av vv cv:Value} {mv:Nat} {m:List (Int × Value)} {F:Nat -> Foot} (h:MachP base bs fuel W bm s ⟨0,0,0⟩ ov av vv cv mv m F):Mach base bs fuel W bm (fun k => ∃ i,F i k) s:=⟨ov,av,vv,cv,mv,m,F,h,fun _=>Iff.rfl⟩
theorem Mach.lt {base bs fuel:Nat} {W:World} {bm:Nat} {D:Foot} {s:RunS} (h:Mach base bs fuel W bm D s):∀ k,D k -> k < W.heap.size:=fun k hk=>by
 obtain ⟨_,_,_,_,_,_,F,hp,hD⟩:=h
 obtain ⟨i,hi⟩:=(hD k).1 hk
 exact hp.lt hi
theorem Mach.base {base bs fuel:Nat} {W:World} {bm:Nat} {D:Foot} {s:RunS} (h:Mach base bs fuel W bm D s):∀ k,D k -> base <= k:=fun k hk=>by
 obtain ⟨_,_,_,_,_,_,F,hp,hD⟩:=h
 obtain ⟨i,hi⟩:=(hD k).1 hk
 exact hp.base i k hi
theorem Mach.keep {base bs fuel:Nat} {W W' : World} {bm:Nat} {D:Foot} {s:RunS} (h:Mach base bs fuel W bm D s) {E:Foot} (ho:Off E W W') (hE:D.off E):Mach base bs fuel W' bm D s:=by
 obtain ⟨ov,av,vv,cv,mv,m,F,hp,hD⟩:=h
 exact ⟨ov,av,vv,cv,mv,m,F,hp.keep ho (fun i k hk=>hE k ((hD k).2 ⟨i,hk⟩)),hD⟩
theorem Mach.later {base bs fuel:Nat} {W W' : World} {bm:Nat} {D:Foot} {s:RunS} (h:Mach base bs fuel W bm D s) (hb:Below W.heap.size W W'):Mach base bs fuel W' bm D s:=h.keep (Off.of_below hb Foot.none) fun _ _ h=>h
theorem Mach.alloc {base bs fuel:Nat} {W:World} {bm:Nat} {D:Foot} {s:RunS} (h:Mach base bs fuel W bm D s) (o:Obj):Mach base bs fuel (W.alloc o) bm D s:=h.later ((Below.refl _ _).alloc (aB _) o)
def MOk (base bs fuel:Nat) (w:World) (bm:Nat) (D:Foot) (s' : RunS) (w' : World):Prop := ∃ D',Mach base bs fuel w' bm D' s' /\ Off D w w' /\ ∀ k,D' k -> D k \/ w.heap.size <= k
theorem MOk.of {base bs fuel:Nat} {W W' : World} {bm:Nat} {s' : RunS} {ov' av' vv' cv' : Value} {mv' : Nat} {m' : List (Int × Value)} {F F' : Nat -> Foot} {D:Foot} (hD:∀ k,D k ↔ ∃ i,F i k)
  (h' : MachP base bs fuel W' bm s' ⟨0,0,0⟩ ov' av' vv' cv' mv' m' F') (ho:Off (fun k => ∃ i,F i k) W W') (hF:∀ i k,F' i k -> F i k \/ W.heap.size <= k):MOk base bs fuel W bm D s' W' :=
 ⟨_,h'.mach,ho.mono (fun k _ hk=>(hD k).2 hk),fun k ⟨i,hi⟩=>(hF i k hi).imp (fun h=>(hD k).2 ⟨i,h⟩) id⟩
theorem MOk.still {base bs fuel:Nat} {W W' : World} {bm:Nat} {s:RunS} {ov av vv cv:Value} {mv:Nat} {m:List (Int × Value)} {F:Nat -> Foot} {D:Foot} (hD:∀ k,D k ↔ ∃ i,F i k)
  (h:MachP base bs fuel W bm s ⟨0,0,0⟩ ov av vv cv mv m F) (hb:Below W.heap.size W W'):MOk base bs fuel W bm D s W':=MOk.of hD (h.later hb) (Off.of_below hb _) fun _ _ hk=>.inl hk
theorem MOk.same {base bs fuel:Nat} {w:World} {bm:Nat} {D:Foot} {s:RunS} (h:Mach base bs fuel w bm D s) {w' : World} (hb:Below w.heap.size w w'):MOk base bs fuel w bm D s w':=⟨D,h.later hb,Off.of_below hb D,fun _ h=>.inl h⟩
theorem MOk.trans {base bs fuel:Nat} {w w1 w2:World} {bm:Nat} {D D1:Foot} {s:RunS} (h1:Off D w w1) (hD:∀ k,D1 k -> D k \/ w.heap.size <= k) (h2:MOk base bs fuel w1 bm D1 s w2):MOk base bs fuel w bm D s w2:=by
 obtain ⟨D2,m2,o2,d2⟩:=h2
 refine ⟨D2,m2,Off.grow h1 o2 hD,fun k hk => ?_⟩
 rcases d2 k hk with h | h
 ·exact hD k h
 exact .inr (aP h1.size h)
def j4 (o:OverD):Ending:=.panicked [{ v:=.iface 166 (.agg #[.int .i64 o.how,.int .i64 o.value,.int .i64 o.trap]),recovered:=false }]
end Go.Proofs.YtgmhnepmkaonaaaGreat
