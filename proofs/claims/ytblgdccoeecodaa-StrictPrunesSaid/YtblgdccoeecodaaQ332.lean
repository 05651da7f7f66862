/- What the claim needs,part 32. -/
import Derived.Test.YtblgdccoeecodaaQ321
import Derived.Test.YtblgdccoeecodaaQ36
import Derived.Test.YtblgdccoeecodaaQ316
import Derived.Test.YtblgdccoeecodaaQ331
namespace Go.Proofs.Ytblgdccoeecodaa
set_option linter.unusedSimpArgs false
set_option linter.unusedVariables false
open Go.RowKit
theorem OPhis.open {W:World} {S:Foot} {v:Value} {ps:List PhiD} (h:OPhis W S v ps) {j:Nat} {p:PhiD} (hj:ps[j]? = some p) :
  ∃ (g cap:Nat) (af av:Option Addr) (cf cv:Nat) (cs:List Value) (G Sf Sv:Foot),v = .slice (some ⟨g,0,none⟩) ps.length cap/\g < W.heap.size/\G g/\(∀ k,G k -> S k)/\PhiC W g (j * 4) p af av cf cv/\(∀ o,W.frozen? ⟨g,o,none⟩=false)/\cs[j * 4+2]? = some (.slice af p.src.length cf)/\cs[j * 4+3]? = some (.slice av p.vals.length cv) /\
   ORow W G 78 4 v ps.length cs/\OInts W Sf (.slice af p.src.length cf) p.src/\OInts W Sv (.slice av p.vals.length cv) p.vals/\(∀ k,Sf k -> S k)/\(∀ k,Sv k -> S k)/\Sf.off Sv/\Sf.off G/\Sv.off G /\
   (∀ (W' : World) (u2 u3:Value) (src vals:List Int) (Sf' Sv' : Foot),Off (G.or (Sf.or Sv)) W W' -> ORow W' G 78 4 v ps.length ((cs.set (j * 4+2) u2).set (j * 4+3) u3) -> OInts W' Sf' u2 src -> OInts W' Sv' u3 vals -> Sf'.off Sv' ->
    (∀ k,Sf' k -> Sf k \/ W.heap.size <= k) -> (∀ k,Sv' k -> Sv k \/ W.heap.size <= k) -> OPhis W' (fun k=>S k \/ Sf' k \/ Sv' k) v (ps.set j { p with src:=src,vals:=vals })):=by
 obtain ⟨cs,G,F,hp⟩:=h
 have hjl:=(List.getElem?_eq_some_iff.1 hj).1
 have hn:0 < ps.length:=by omega
 obtain ⟨g,cap,hv,hG, -, -,hgl,hcell,hfr⟩:=hp.row.addr hn
 obtain ⟨⟨a,b,Sf,Sv,hch,h1,h2,h12,i1,i2⟩,hFl,q1,q2⟩:=hp.el j p hj
 obtain ⟨af,cf,rfl⟩:=h1.ints.form
 obtain ⟨av,cv,rfl⟩:=h2.ints.form
 have hc:∀ o u,o < 4 -> (chunk cs 4 j)[o]? = some u -> W.cell? ⟨g,j * 4+o,none⟩=some u:=fun o u ho hu=>hcell _ _ (by rw [<-chunk_at ho];exact hu)
 have hch2:=hch
 rw [hch] at hc
 have nG:∀ k,F j k -> ¬ G k:=hp.free j hjl
 have inS:∀ k,F j k -> S k:=fun k hk=>hp.inF j k hjl hk
 refine ⟨g,cap,af,av,cf,cv,cs,G,Sf,Sv,hv,hgl,hG,hp.inG,⟨hc 0 _ (by omega) rfl,hc 1 _ (by omega) rfl,hc 2 _ (by omega) rfl,hc 3 _ (by omega) rfl,h1.ints,h2.ints,q1,q2⟩,hfr,by rw [<-chunk_at (by omega),hch2];rfl,by rw [<-chunk_at (by omega),hch2];rfl,hp.row,h1,h2,
  fun k hk=>inS k (i1 k hk),fun k hk=>inS k (i2 k hk),h12,fun k a b=>nG k (i1 k a) b,fun k a b=>nG k (i2 k a) b,fun W' u2 u3 src vals Sf' Sv' ho hrow ha hb hab hf' hv' => ?_⟩
 have ho2:Off (G.or (F j)) W W':=ho.mono fun k _ hk=>by
  rcases hk with hk | hk | hk
  ·exact .inl hk
  ·exact .inr (i1 k hk)
  ·exact .inr (i2 k hk)
 refine ⟨_,G,_,hp.put OPhi.nice hj { p with src:=src,vals:=vals } (Fj:=fun k=>Sf' k \/ Sv' k) ho2 hrow (fun i hi hne => ?_) ?_ (fun k hk => ?_) _ (fun k hk=>.inl hk) (fun k hk=>.inr hk) (fun k hk => ?_)⟩
 ·rw [chunk_set hne (by omega),chunk_set hne (by omega)]
 ·rw [chunk_set_self (by omega),chunk_set_self (by omega),hch2]
  exact ⟨⟨u2,u3,Sf',Sv',rfl,ha,hb,hab,fun k h=>.inl h,fun k h=>.inr h⟩,fun k hk=>hk.elim (ha.lt k) (hb.lt k),q1,q2⟩
 ·rcases hk with hk | hk
  ·rcases hf' k hk with c | c
   ·exact .inl (i1 k c)
   ·exact .inr fun hs=>by have:=hp.lt k hs;omega
  ·rcases hv' k hk with c | c
   ·exact .inl (i2 k c)
   ·exact .inr fun hs=>by have:=hp.lt k hs;omega
 ·rcases hk with hk | hk | hk
  ·exact Nat.lt_of_lt_of_le (hp.lt k hk) ho.size
  ·exact ha.lt k hk
  ·exact hb.lt k hk
theorem OInts.addr {W:World} {S:Foot} {v:Value} {xs:List Int} (h:OInts W S v xs) {i:Nat} {x:Int} (hi:xs[i]? = some x) :
  ∃ g cap,v = .slice (some ⟨g,0,none⟩) xs.length cap/\S g/\g < W.heap.size/\W.cell? ⟨g,i,none⟩=some (.int .i64 x)/\(∀ o,W.frozen? ⟨g,o,none⟩=false) /\ ∀ y,In64 y -> OInts (W.setCell ⟨g,i,none⟩ (.int .i64 y)) S v (xs.set i y):=by
 have hil:=(List.getElem?_eq_some_iff.1 hi).1
 obtain ⟨g,cap,hv,hG, -, -,hgl,hcell,hfr⟩:=h.1.addr (by omega)
 exact ⟨g,cap,hv,hG,hgl,hcell i _ (by rw [List.getElem?_map,hi];rfl),hfr,fun y hy=>h.set hv hil hy⟩
end Go.Proofs.Ytblgdccoeecodaa
namespace Go.Proofs.Ytblgdccoeecodaa
set_option linter.unusedSimpArgs false
set_option linter.unusedVariables false
open Go.RowKit
def splitPhi (b n:Int) (still:Bool) (p:PhiD):PhiD :=
 if b ∈ p.src then
  if still then { p with src:=p.src ++ [n],vals:=p.vals ++ [p.vals.getD (p.src.idxOf b) 0] } else { p with src:=p.src.set (p.src.idxOf b) n }
 else p
theorem phiOk_split {nb:Nat} {b:Int} {still:Bool} {p:PhiD} (h:phiOk nb p=true):phiOk (nb+1) (splitPhi b nb still p)=true:=by
 unfold phiOk at h ⊢
 simp only [Bool.and_eq_true,List.all_eq_true,decide_eq_true_eq,beq_iff_eq] at h
 obtain ⟨⟨⟨h1,h2⟩,h3⟩,h4⟩:=h
 have hm:∀ x ∈ p.src,numB (nb+1) x=true:=fun x hx=>by
  have:=h3 x hx
  unfold numB at this ⊢
  simp at this ⊢;omega
 have hno:(nb:Int) ∉ p.src:=fun hx=>by
  have:=h3 _ hx
  unfold numB at this
  simp at this
 have hnb:numB (nb+1) (nb:Int)=true:=by unfold numB;simp;omega
 simp only [Bool.and_eq_true,List.all_eq_true,decide_eq_true_eq,beq_iff_eq]
 unfold splitPhi
 split
 ·rename_i hb
  split
  ·refine ⟨⟨⟨h1,by simp [h2]⟩,fun x hx => ?_⟩, ?_⟩
   ·rcases List.mem_append.1 hx with hx | hx
    ·exact hm x hx
    ·rw [List.mem_singleton.1 hx];exact hnb
   ·rw [List.nodup_append]
    exact ⟨h4,by simp,fun a ha c hc e=>by rw [List.mem_singleton] at hc;exact hno (by rw [<-hc, <-e];exact ha)⟩
  ·refine ⟨⟨⟨h1,by simp [h2]⟩,fun x hx => ?_⟩, ?_⟩
   ·rcases List.mem_or_eq_of_mem_set hx with hx | hx
    ·exact hm x hx
    ·rw [hx];exact hnb
   ·rw [List.nodup_iff_pairwise_ne,List.pairwise_iff_getElem]
    intro i j hi hj hij
    rw [List.getElem_set,List.getElem_set]
    have hi' : i < p.src.length:=by simpa using hi
    have hj' : j < p.src.length:=by simpa using hj
    split
    ·split
     ·omega
     ·intro e;exact hno (e ▸ List.getElem_mem hj')
    ·split
     ·intro e;exact hno (e ▸ List.getElem_mem hi')
     ·intro e
      rw [List.nodup_iff_pairwise_ne,List.pairwise_iff_getElem] at h4
      exact h4 i j hi' hj' hij e
 ·exact ⟨⟨⟨h1,h2⟩,hm⟩,h4⟩
theorem blockOk_parts {nb:Nat} {ar ce:Int} {x:BlockD} {i:Nat}:blockOk nb ar ce (x,i)=true ↔ (i=0 -> x.phis=[])/\(∀ p ∈ x.phis,phiOk nb p=true)/\(x.code.all (instrOk ar ce))=true/\endOk nb x.term=true:=by
 unfold blockOk
 simp only [Bool.and_eq_true,List.all_eq_true,Bool.not_eq_true',Bool.and_eq_false_iff,decide_eq_false_iff_not]
 constructor
 ·rintro ⟨⟨⟨h1,h2⟩,h3⟩,h4⟩
  refine ⟨fun hi => ?_,h2,h3,h4⟩
  rcases h1 with h1 | h1
  ·exact absurd hi h1
  ·exact List.eq_nil_of_length_eq_zero (by omega)
 ·rintro ⟨h1,h2,h3,h4⟩
  refine ⟨⟨⟨?_,h2⟩,h3⟩,h4⟩
  by_cases hi:i=0
  ·right;rw [h1 hi];simp
  ·left;exact hi
theorem endOk_to {nb:Nat} {t:TermD} (h:endOk nb t=true) {k:Nat} {q:Int} (hk:t.to[k]? = some q):1 <= q/\q < nb:=by
 unfold endOk at h
 rw [Bool.and_eq_true] at h
 have:=List.all_eq_true.1 h.1 q (List.mem_of_getElem? hk)
 simpa using this
end Go.Proofs.Ytblgdccoeecodaa
namespace Go.Proofs.Ytblgdccoeecodaa
set_option linter.unusedSimpArgs false
set_option linter.unusedVariables false
open Go.RowKit
def zeroF:FuncD:=⟨[],0,0,[]⟩
theorem getD_some {α : Type} {l:List α} {i:Nat} {x d : α} (h:l[i]? = some x):l.getD i d=x:=by rw [List.getD_eq_getElem?_getD,h];rfl
def upTo {α : Type} (g : α -> α) (l:List α) (i:Nat):List α := (l.take i).map g ++ l.drop i
theorem upTo_zero {α : Type} (g : α -> α) (l:List α):upTo g l 0=l:=by simp [upTo]
theorem upTo_all {α : Type} (g : α -> α) (l:List α):upTo g l l.length=l.map g:=by simp [upTo]
theorem upTo_len {α : Type} (g : α -> α) (l:List α) (i:Nat):(upTo g l i).length=l.length:=by simp [upTo];omega
theorem upTo_at {α : Type} {g : α -> α} {l:List α} {i:Nat} {x : α} (h:l[i]? = some x):(upTo g l i)[i]? = some x/\(upTo g l i).set i (g x)=upTo g l (i+1):=by
 have hl:=(List.getElem?_eq_some_iff.1 h).1
 have ht:((l.take i).map g).length=i:=by rw [List.length_map,List.length_take];omega
 have hd:l.drop i=x :: l.drop (i+1):=by rw [<-(List.getElem?_eq_some_iff.1 h).2];exact List.drop_eq_getElem_cons hl
 unfold upTo
 constructor
 ·rw [List.getElem?_append_right (by omega),ht,Nat.sub_self,hd];rfl
 ·rw [List.set_append_right _ _ (by omega),ht,Nat.sub_self,hd,List.set_cons_zero,List.take_add_one,h,Option.toList_some,List.map_append,List.append_assoc];rfl
end Go.Proofs.Ytblgdccoeecodaa
namespace Go.Proofs.Ytblgdccoeecodaa
set_option linter.unusedSimpArgs false
set_option linter.unusedVariables false
open Go.RowKit
theorem Off.grow {S S' : Foot} {A B C:World} (h:Off S A B) (k:Off S' B C) (hs:∀ q,S' q -> S q \/ A.heap.size <= q):Off S A C :=
 ⟨k.os.trans h.os,k.tape.trans h.tape,k.output.trans h.output,Nat.le_trans h.size k.size,fun i hi hn=>(k.block i (Nat.lt_of_lt_of_le hi h.size) fun hm=>(hs i hm).elim hn (fun h=>by omega)).trans (h.block i hi hn)⟩
theorem OFunc.zero {W:World}:OFunc W Foot.none (.agg #[.slice none 0 0,.int .i64 0,.int .i64 0,.slice none 0 0]) zeroF :=
 ⟨⟨_,_,Foot.none,Foot.none,rfl,OInts.nil none,OSl.nil none,fun _ h=>h.elim,fun _ h=>h.elim,fun _ h=>h.elim⟩,fun _ h=>h.elim,⟨by decide,by decide⟩,⟨by decide,by decide⟩⟩
theorem OInts.narrow {W:World} {S:Foot} {xs:List Int} {g cap n:Nat} (h:OInts W S (.slice (some ⟨g,0,none⟩) n cap) xs) (hn:0 < xs.length):OInts W (Foot.one g) (.slice (some ⟨g,0,none⟩) n cap) xs/\S g:=by
 obtain ⟨⟨h1,h2,h3,h4⟩,h5⟩:=h
 rcases h4 with ⟨h4,_⟩ | ⟨g',cap',cur,hv,hg,r⟩
 ·omega
 ·cases hv
  exact ⟨⟨⟨h1,h2,fun k hk=>by cases hk;exact h3 g hg,.inr ⟨g,cap,cur,rfl,rfl,r⟩⟩,h5⟩,hg⟩
theorem gives_iapp {w:World} {o:Oper} {a:Act} (s x:Operand)
  (ho:o.op = .call { callee:=.builtin .append,args:=#[s,x],argTypes:=#[22,22] }) {v:Value} {B:Nat} {y:Int} (hs:a.eval s=v) (hx:a.eval x = .slice (some ⟨B,0,none⟩) 1 1) {S:Foot} {xs:List Int} {n:Nat} (hn:xs.length=n)
  (H:OInts w S v xs) (hB:Box w B #[.int .i64 y]) (hy:In64 y) (hlen:n+1 <= 100000) {XF:Nat -> Foot} {i:Nat} (hX:∀ k,S k -> XF i k) :
  ∃ u w'',(execOp a.eval o).run Try.prog w = .ok (.value u) w'' /\ (∃ g cap,u = .slice (some ⟨g,0,none⟩) (n+1) cap/\OInts w'' (Foot.one g) u (xs ++ [y])/\(S g \/ w.heap.size <= g))/\Four.Step XF (fun _=>True) i w w'':=by
 obtain ⟨v',w',G',hrun,r1,r2,r3, -⟩:=exec_oapp (P:=Try.prog) s x 22 3 ho elInt hs hx H.1 (row_box (n:=1) (size:=1) (ds:=[.int .i64 y]) hB rfl (by omega)) (by intro u hu;simp at hu;subst hu;rfl) (by omega) (by omega)
 have hO:OInts w' G' v' (xs ++ [y]):=by
  refine ⟨?_,fun z hz => ?_⟩
  ·rw [List.length_append,List.map_append];exact r1
  ·rcases List.mem_append.1 hz with h | h
   ·exact H.2 z h
   ·simp at h;subst h;exact hy
 obtain ⟨g,cap,rfl,hg, -⟩:=hO.1.addr (by simp)
 have hl:(xs ++ [y]).length=n+1:=by simp [hn]
 rw [hl] at hO hrun
 obtain ⟨k1,k2⟩:=hO.narrow (by omega)
 exact ⟨_,w',hrun,⟨g,cap,rfl,k1,r2 g k2⟩,r3.mono fun k _ hk=>hX k hk,fun h=>h⟩
theorem gives_iapp2 {w:World} {o:Oper} {a:Act} (s x:Operand)
  (ho:o.op = .call { callee:=.builtin .append,args:=#[s,x],argTypes:=#[22,22] }) {v:Value} {B:Nat} {y:Int} (hs:a.eval s=v) (hx:a.eval x = .slice (some ⟨B,0,none⟩) 1 1) {S:Foot} {xs:List Int} {n:Nat} (hn:xs.length=n)
  (H:OInts w S v xs) (hB:Box w B #[.int .i64 y]) (hy:In64 y) (hlen:n+1 <= 100000) {XF:Nat -> Foot} {i:Nat} (hX:∀ k,S k -> XF i k) {Z:Value -> World -> Prop}
  (hZ:∀ g cap w'',OInts w'' (Foot.one g) (.slice (some ⟨g,0,none⟩) (n+1) cap) (xs ++ [y]) -> (S g \/ w.heap.size <= g) -> Z (.slice (some ⟨g,0,none⟩) (n+1) cap) w'') :
  ∃ u w'',(execOp a.eval o).run Try.prog w = .ok (.value u) w'' /\ Z u w'' /\ Four.Step XF (fun _=>True) i w w'':=by
 obtain ⟨u,w'',h1,⟨g,c,e,h2,h3⟩,h4⟩:=gives_iapp (XF:=XF) (i:=i) s x ho hs hx hn H hB hy hlen hX
 subst e
 exact ⟨_,w'',h1,hZ g c w'' h2 h3,h4⟩
theorem Off.cell {S:Foot} {W W' : World} (h:Off S W W') {b o:Nat} (hl:b < W.heap.size) (hn:¬ S b):W'.cell? ⟨b,o,none⟩=W.cell? ⟨b,o,none⟩:=World.cell?_of_block (w:=W) (a:=⟨b,o,none⟩) (h.block b hl hn)
theorem block_sizes {f:FuncD} (hc:checkF f=0):(∀ x ∈ f.blocks,x.phis.length <= 100000/\x.code.length <= 100000)/\f.blocks.length <= 100000:=by
 have hf:=(check_fine hc).1
 have hs:=(even_of hf).size
 have hn:=(formB_nb hf).2
 refine ⟨fun x hx => ?_,by omega⟩
 have h1:sizeB x <= sizeF f:=by
  unfold sizeF
  have:∀ (l:List BlockD),x ∈ l -> sizeB x <= (l.map sizeB).sum/\0 <= (l.map sizeB).sum:=by
   intro l
   induction l with
   | nil=>intro h;cases h
   | cons y l ih =>
    intro h
    have hy:0 <= sizeB y:=by unfold sizeB;omega
    have hnn:∀ (l:List BlockD),0 <= (l.map sizeB).sum:=by
     intro l
     induction l with
     | nil=>simp
     | cons z l ih=>have:0 <= sizeB z:=(by unfold sizeB;omega);simp only [List.map_cons,List.sum_cons];omega
    have:=hnn l
    simp only [List.map_cons,List.sum_cons]
    rcases List.mem_cons.1 h with rfl | h
    ·omega
    ·have:=(ih h).1;omega
  exact (this _ hx).1
 unfold sizeB at h1
 omega
end Go.Proofs.Ytblgdccoeecodaa
