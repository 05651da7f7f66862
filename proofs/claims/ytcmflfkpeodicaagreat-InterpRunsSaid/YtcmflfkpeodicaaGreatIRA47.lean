/- Part 47. -/
import Derived.Test.YtcmflfkpeodicaaGreatIRA46
namespace Go.Proofs.YtcmflfkpeodicaaGreat
set_option linter.all false
section
open Go.RowKit
structure Que (W:World) (base:Nat) (bs:List Nat) (v:Value) (xs:List Int):Prop where
 ex:∃ (b off cap:Nat),v = .slice (some ⟨b,off,none⟩) xs.length cap/\base <= b/\b ∉ bs/\b < W.heap.size/\xs.length <= cap/\cap <= maxLen/\(∀ (j:Nat) (x:Int),xs[j]? = some x -> W.cell? ⟨b,off+j,none⟩=some (.int .i64 x)) /\
  ∀ j:Nat,j < cap -> (W.cell? ⟨b,off+j,none⟩).isSome=true/\W.frozen? ⟨b,off+j,none⟩=false
theorem Que.keep {W W' : World} {base:Nat} {bs:List Nat} {v:Value} {xs:List Int} (h:Que W base bs v xs) (hs:W.heap.size <= W'.heap.size) (hk:∀ g,v.ownBlock=some g \/ (∃ a n c,v = .slice (some a) n c/\a.block=g) -> W'.heap[g]? = W.heap[g]?):Que W' base bs v xs:=by
 obtain ⟨b,off,cap,e,h1,h2,h3,h4,h5,h6,h7⟩:=h.ex
 have hb:=hk b (.inr ⟨_,_,_,e,rfl⟩)
 exact ⟨b,off,cap,e,h1,h2,by omega,h4,h5,fun j x hj=>(World.cell?_of_block (w:=W) (a:=⟨b,off+j,none⟩) hb).trans (h6 j x hj),fun j hj=>by
  rw [World.cell?_of_block (w:=W) (a:=⟨b,off+j,none⟩) hb,World.frozen?_of_block (w:=W) (a:=⟨b,off+j,none⟩) hb];exact h7 j hj⟩
theorem Que.later {W W' : World} {base:Nat} {bs:List Nat} {v:Value} {xs:List Int} (h:Que W base bs v xs) (hb:Below W.heap.size W W'):Que W' base bs v xs:=by
 obtain ⟨b,off,cap,e,h1,h2,h3,h4,h5,h6,h7⟩:=h.ex
 have hh:=hb.block b h3
 exact ⟨b,off,cap,e,h1,h2,by have:=hb.size;omega,h4,h5,fun j x hj=>(World.cell?_of_block (w:=W) (a:=⟨b,off+j,none⟩) hh).trans (h6 j x hj),fun j hj=>by
  rw [World.cell?_of_block (w:=W) (a:=⟨b,off+j,none⟩) hh,World.frozen?_of_block (w:=W) (a:=⟨b,off+j,none⟩) hh];exact h7 j hj⟩
theorem Que.other {W:World} {base:Nat} {bs:List Nat} {v:Value} {xs:List Int} (h:Que W base bs v xs) {p:Addr} (u:Value) (hp:p.block ∈ bs):Que (W.setCell p u) base bs v xs:=by
 obtain ⟨b,off,cap,e,h1,h2,h3,h4,h5,h6,h7⟩:=h.ex
 have hh:=Below.heap_setCell W p u b (fun e=>h2 (e ▸ hp))
 exact ⟨b,off,cap,e,h1,h2,by simpa using h3,h4,h5,fun j x hj=>(World.cell?_of_block (w:=W) (a:=⟨b,off+j,none⟩) hh).trans (h6 j x hj),fun j hj=>by
  rw [World.cell?_of_block (w:=W) (a:=⟨b,off+j,none⟩) hh,World.frozen?_of_block (w:=W) (a:=⟨b,off+j,none⟩) hh];exact h7 j hj⟩
theorem Que.one {W:World} {base:Nat} {bs:List Nat} {b:Nat} {x:Int} (h:Box W b #[.int .i64 x]) (hb:base <= b) (hn:b ∉ bs):Que W base bs (.slice (some ⟨b,0,none⟩) 1 1) [x]:=by
 refine ⟨b,0,1,rfl,hb,hn,h.lt,aF _,by unfold maxLen;omega,fun j y hj => ?_,fun j hj => ?_⟩
 ·have:j=0:=by have:=(aE.1 hj).1;simp at this;omega
  subst this
  simp at hj;subst hj
  exact h.at 0 rfl
 have:j=0:=by omega
 subst this
 exact ⟨by rw [bH,h.at 0 rfl];rfl,h.free _⟩
theorem Que.tail {W:World} {base:Nat} {bs:List Nat} {b off cap:Nat} {x:Int} {xs:List Int} (h:Que W base bs (.slice (some ⟨b,off,none⟩) (xs.length+1) cap) (x :: xs)) :
  Que W base bs (.slice (if cap=1 then some ⟨b,off,none⟩ else some ⟨b,off+1,none⟩) xs.length (cap - 1)) xs:=by
 obtain ⟨b',off',cap',e,h1,h2,h3,h4,h5,h6,h7⟩:=h.ex
 cases e
 rw [bB] at h4
 by_cases hc:cap=1
 ·subst hc
  have hx:xs=[]:=cJ (by omega)
  subst hx
  exact ⟨b,off,0,rfl,h1,h2,h3,by simp,by unfold maxLen;omega,fun j x hj=>by simp at hj,fun j hj=>by omega⟩
 ·rw [if_neg hc]
  refine ⟨b,off+1,cap - 1,rfl,h1,h2,h3,by omega,by omega,fun j y hj => ?_,fun j hj => ?_⟩
  ·rw [show off+1+j=off+(j+1) by omega];exact h6 (j+1) y (by simpa using hj)
  rw [show off+1+j=off+(j+1) by omega];exact h7 (j+1) (by omega)
theorem Que.of_own {W:World} {base B:Nat} {bs:List Nat} {e:TypeId} {v:Value} {xs:List Int} (h:W.ownsRow B e 1 v xs.length (xs.map (.int .i64))) (hB:base <= B) (hbs:∀ b ∈ bs,b < B) (h0:0 < xs.length):Que W base bs v xs:=by
 rcases h.2 with ⟨rfl,h9⟩ | ⟨g,cap,cur,rfl,hb,hh,k1,k2,k3,k4⟩
 ·omega
 refine ⟨g,0,cap,rfl,by omega,fun hm=>by have:=hbs g hm;omega,(aS.1 hh).1,k1,k2,fun j x hj => ?_,fun j hj => ?_⟩
 ·have hjl:=(aE.1 hj).1
  rw [bH]
  simp only [World.cell?,hh]
  have h5:=congrArg (fun l=>l[j]?) k4
  simp only [eF,aU,hj,cS] at h5
  rw [bE,if_pos hjl] at h5
  simpa using h5
 rw [bH]
 refine ⟨?_,by simp [World.frozen?,hh]⟩
 simp only [World.cell?,hh]
 simp [show j < cur.size by omega]
theorem iK (w:World) (b o:Nat) (v:Value):w.setCells b o [v]=w.setCell ⟨b,o,none⟩ v:=rfl
theorem yC {P:Program} {w:World} {ops:Array Oper} {rest:List Oper} {o:Oper} {a:Act} {Q:Exit -> Act -> World -> Prop} (hgd:o.guard=none) (s x:Operand) (t e:TypeId)
  (ho:o.op = .call { callee:=.builtin .append,args:=#[s,x],argTypes:=#[t,t] }) (he:Elem P t e (.int .i64 0) 1 8) {base:Nat} {bs:List Nat}
  {v:Value} {xs:List Int} {y:Int} {B:Nat} (hs:a.eval s=v) (hx:a.eval x = .slice (some ⟨B,0,none⟩) 1 1) (HQ:Que w base bs v xs) (hB:Box w B #[.int .i64 y]) (hlen:xs.length <= 17592186044415) (hbase:base <= w.heap.size) (hbs:∀ b ∈ bs,b < w.heap.size)
  (h:∀ v' w',Que w' base bs v' (xs ++ [y]) -> (∀ b A,b ∈ bs -> Box w b A -> Box w' b A) -> Below base w w' -> wpList P ops Q rest (a.put o.dst v') w'):wpList P ops Q (o :: rest) a w:=by
 obtain ⟨ht,⟨i,hi,hz,hsz,hby⟩,hzc,hp⟩:=he
 obtain ⟨b,off,cap,rfl,h1,h2,h3,h4,h5,h6,h7⟩:=HQ.ex
 have hsome:xs.length+1 <= cap -> ∀ j,j < [Value.int .i64 y].length -> (w.cell? ⟨b,off+xs.length+j,none⟩).isSome=true:=fun hr j hj=>by
  have h0:j=0:=by simpa using hj
  subst h0
  exact (h7 xs.length (by omega)).1
 refine wpList_append_arg w hgd s x t ho e i (.int .i64 0) 1 8 ht hi hz hsz hby rfl (by omega) b off xs.length cap (xs.map (.int .i64)) hs (by simp) (fun j u hj => ?_) ⟨B,0,none⟩ 1 1 [.int .i64 y] hx rfl (fun j u hj => ?_) (by simp [Value.oneCell']) (fun hr j hj => ?_) (by unfold maxLen;omega) (by omega) (fun hr => ?_) (fun hg v' w' r1 r2 => ?_)
 ·rw [aU] at hj
  obtain ⟨z,hz2,rfl⟩:=Option.map_eq_some_iff.1 hj
  exact h6 j z hz2
 ·have:j=0:=by have:=(aE.1 hj).1;simp at this;omega
  subst this
  simp at hj;subst hj
  rw [add_zero];exact hB.at 0 rfl
 ·simp only [bB,cD] at hj
  have h0:j=0:=by omega
  subst h0
  rw [eF,bW]
  exact h7 xs.length (by omega)
 ·rw [iK,eF]
  refine h _ _ ⟨b,off,cap,by rw [List.length_append];rfl,h1,h2,by simpa using h3,by rw [List.length_append];exact hr,h5,fun j z hj => ?_,fun j hj => ?_⟩ (fun b' A hb' hA=>hA.other _ (fun e=>h2 (by rw [<-show b' = b from e];exact hb'))) ((Below.refl _ _).setCell (p:=⟨b,off+xs.length,none⟩) h1 _)
  ·have hc:=World.cell?_setCells_in b [.int .i64 y] (off+xs.length) w (hsome hr) 0 (by simp)
   rw [bW,iK] at hc
   rw [dB] at hj
   split at hj
   ·rename_i hjl
    have ho:=World.cell?_setCells_out b [.int .i64 y] (off+xs.length) w ⟨b,off+j,none⟩ (fun _ _=>Or.inl (by simp only;omega))
    rw [iK] at ho
    rw [ho];exact h6 j z hj
   rename_i hjl
   have:j=xs.length:=by
    have:=(aE.1 hj).1
    simp at this;omega
   subst this
   simp at hj;subst hj
   exact hc
  have hf:=World.frozen?_setCells b [.int .i64 y] (off+xs.length) w ⟨b,off+j,none⟩
  rw [iK] at hf
  rw [hf]
  refine ⟨?_,(h7 j hj).2⟩
  by_cases e:j=xs.length
  ·subst e
   have hc:=World.cell?_setCells_in b [.int .i64 y] (off+xs.length) w (hsome hr) 0 (by simp)
   rw [bW,iK] at hc
   rw [hc];rfl
  have ho:=World.cell?_setCells_out b [.int .i64 y] (off+xs.length) w ⟨b,off+j,none⟩ (fun _ _=>by simp only [bB,cD];omega)
  rw [iK] at ho
  rw [ho];exact (h7 j hj).1
 ·refine h v' w' (Que.of_own (B:=w.heap.size) (e:=e) ?_ hbase hbs (by simp)) (fun b' A hb' hA => ?_) ((Below.refl _ _).grown r2 hbase (by simp))
  ·rw [aQ,bF];exact r1
  exact hA.later ((Below.refl _ _).grown r2 (aF _) (by simp))
end
section
open Go.RowKit
structure WInv (f:FuncD) (gone:Int) (s:List Bool) (q:List Nat):Prop where
 len:s.length=f.blocks.length
 sound:∀ b:Nat,s[b]? = some true -> Way (toB f) gone b
 que:∀ b ∈ q,s[b]? = some true
 closed:∀ b:Nat,s[b]? = some true -> b ∉ q -> ∀ t ∈ toB f b,(t:Int) ≠ gone -> s[t]? = some true
 zero:s[0]? = some true
structure WIn (f:FuncD) (gone:Int) (c k:Nat) (s:List Bool) (q:List Nat):Prop where
 len:s.length=f.blocks.length
 sound:∀ b:Nat,s[b]? = some true -> Way (toB f) gone b
 que:∀ b ∈ q,s[b]? = some true
 cur:s[c]? = some true
 closed:∀ b:Nat,s[b]? = some true -> b ∉ q -> b ≠ c -> ∀ t ∈ toB f b,(t:Int) ≠ gone -> s[t]? = some true
 part:∀ t ∈ (toB f c).take k,(t:Int) ≠ gone -> s[t]? = some true
 zero:s[0]? = some true
theorem WInv.take {f:FuncD} {gone:Int} {s:List Bool} {c:Nat} {q:List Nat} (h:WInv f gone s (c :: q)):WIn f gone c 0 s q :=
 ⟨h.len,h.sound,fun b hb=>h.que b (cL _ hb),h.que c dG,fun b hb hq hc=>h.closed b hb (by simp [hq,hc]),by simp,h.zero⟩
theorem WIn.old {f:FuncD} {gone:Int} {c k:Nat} {s:List Bool} {q:List Nat} {t:Nat} (h:WIn f gone c k s q) (hk:(toB f c)[k]? = some t) (ht:s[t]? = some true \/ (t:Int)=gone):WIn f gone c (k+1) s q :=
 ⟨h.len,h.sound,h.que,h.cur,h.closed,fun u hu hg=>by
  rw [eP _ _ _ hk] at hu
  rcases aO.1 hu with hu | hu
  ·exact h.part u hu hg
  simp at hu;subst hu
  exact ht.resolve_right hg,h.zero⟩
theorem WIn.new {f:FuncD} {gone:Int} {c k:Nat} {s:List Bool} {q:List Nat} {t:Nat} (h:WIn f gone c k s q) (hk:(toB f c)[k]? = some t) (ht:s[t]? = some false) (hg:(t:Int) ≠ gone):WIn f gone c (k+1) (s.set t true) (q ++ [t]):=by
 have htl:=(aE.1 ht).1
 have up:∀ b:Nat,s[b]? = some true -> (s.set t true)[b]? = some true:=fun b hb=>kA.2 (.inl hb)
 have hn:(s.set t true)[t]? = some true:=kA.2 (.inr ⟨rfl,htl⟩)
 refine ⟨by rw [bY];exact h.len,fun b hb => ?_,fun b hb => ?_,up _ h.cur,fun b hb hq hc u hu hg2 => ?_,fun u hu hg2 => ?_,up _ h.zero⟩
 ·rcases kA.1 hb with hb | ⟨rfl,_⟩
  ·exact h.sound b hb
  exact .step (h.sound c h.cur) (aG hk) hg
 ·rcases aO.1 hb with hb | hb
  ·exact up b (h.que b hb)
  simp at hb;subst hb;exact hn
 ·rcases kA.1 hb with hb | ⟨rfl,_⟩
  ·exact up u (h.closed b hb (fun hm=>hq (aO.2 (.inl hm))) hc u hu hg2)
  exact absurd (aO.2 (.inr (by simp))) hq
 rw [eP _ _ _ hk] at hu
 rcases aO.1 hu with hu | hu
 ·exact up u (h.part u hu hg2)
 simp at hu;subst hu;exact hn
theorem WIn.done {f:FuncD} {gone:Int} {c:Nat} {s:List Bool} {q:List Nat} (h:WIn f gone c (toB f c).length s q):WInv f gone s q :=
 ⟨h.len,h.sound,h.que,fun b hb hq u hu hg=>by
  by_cases e:b=c
  ·subst e;exact h.part u (by rw [cM];exact hu) hg
  exact h.closed b hb hq e u hu hg,h.zero⟩
theorem WInv.is {f:FuncD} {gone:Int} {s:List Bool} (h:WInv f gone s []):mW f gone s :=
 ⟨h.len,fun b=>⟨h.sound b,fun hw=>by
  induction hw with
  | zero _=>exact h.zero
  | step _ ht hg ih=>exact h.closed _ ih (by simp) _ ht hg⟩⟩
theorem WInv.start {f:FuncD} {gone:Int} (hn:1 <= f.blocks.length) (hg:gone ≠ 0):WInv f gone ((List.replicate f.blocks.length false).set 0 true) [0]:=by
 have h0:∀ b:Nat,((List.replicate f.blocks.length false).set 0 true)[b]? = some true ↔ b=0:=fun b=>by
  rw [kA]
  constructor
  ·rintro (h | ⟨h,_⟩)
   ·obtain ⟨h1,h2⟩:=aE.1 h
    simp at h2
   exact h
  intro h;exact .inr ⟨h,by rw [aV];omega⟩
 refine ⟨by simp,fun b hb => ?_,fun b hb => ?_,fun b hb hq => ?_,(h0 0).2 rfl⟩
 ·rw [(h0 b).1 hb];exact .zero hg
 ·simp at hb;exact (h0 b).2 hb
 exact absurd ((h0 b).1 hb) (by simpa using hq)
theorem sV (f:FuncD):mW f 0 (List.replicate f.blocks.length false):=by
 refine ⟨by simp,fun b=>⟨fun h => ?_,fun h => ?_⟩⟩
 ·obtain ⟨h1,h2⟩:=aE.1 h
  simp at h2
 exfalso
 induction h with
 | zero h=>exact h rfl
 | step _ _ _ ih=>exact ih
def isF (v:Option Value):Bool:=match v with | some (.bool false)=>true | _=>false
def qH (W:World) (B n:Nat):Nat:=(List.range n).countP fun j=>isF (W.cell? ⟨B,j,none⟩)
theorem sW {W:World} {B n:Nat} {s:List Bool} (h:Box W B (fX s)) (hn:s.length=n):qH W B n=s.count false:=by
 subst hn
 have e1:s=(List.range s.length).map fun j=>s.getD j true:=by
  apply bN
  intro j
  by_cases hj:j < s.length
  ·simp [hj]
  simp [hj]
 have e2:s.count false=((List.range s.length).map fun j=>s.getD j true).count false:=by rw [<-e1]
 rw [e2]
 unfold qH List.count
 rw [List.countP_map]
 refine List.countP_congr fun j hj => ?_
 have hj':=cO.1 hj
 rw [h.cell]
 have e3:(fX s)[j]? = some (.bool (s.getD j true)):=jQ (by rw [aH,aB hj'];rfl)
 rw [e3]
 simp only [Function.comp]
 generalize s.getD j true=x
 cases x <;> simp [isF]
def lenV (v:Value):Nat:=match v with | .slice _ n _=>n | _=>0
theorem Que.lenV {W:World} {base:Nat} {bs:List Nat} {v:Value} {xs:List Int} (h:Que W base bs v xs):lenV v=xs.length:=by
 obtain ⟨b,off,cap,e,_⟩:=h.ex
 rw [e];rfl
theorem sX {W:World} {B n:Nat} {s:List Bool} (h:Box W B (fX s)) (hn:s.length=n) (hb:n <= 17592186044416):nV W (.slice (some ⟨B,0,none⟩) n n) s:=by
 subst hn
 have:=Row.of_box (n:=s.length) (size:=1) h (by simp [fX]) hb
 unfold fX at this
 unfold nV
 simpa using this
set_option maxHeartbeats 12800000 in
set_option maxRecDepth 100000 in
theorem nO {w:World} {v:Value} {f:FuncD} {gone:Int} (hv:gG w v f) (hf:gM f=true):Calls Tryz.prog 61 #[v,.int .i64 gone] w fun e w' => ∃ rv S,e = .returned rv/\mW f gone S/\nV w' rv S/\Below w.heap.size w w':=by
 have HTO:=h! (fun (b:Nat) (x:BlockD) (h:f.blocks[b]? = some x)=>mV hf h)
 obtain ⟨hn1,hn2⟩:=gV hf
 obtain ⟨ap,cp,ab,cb,rfl,hp,ha,hc,hB⟩:=hv.form
 obtain ⟨a2,c2,bb,bo,hbe,hbc,hbm,hbl,hba,hbx⟩:=eW hB
 cases hbe
 obtain ⟨np,hnp⟩ : ∃ np,np=f.params.length:=⟨_,rfl⟩
 obtain ⟨nb,hnb⟩ : ∃ nb,nb=f.blocks.length:=⟨_,rfl⟩
 rw [<-hnp]
 rw [<-hnb] at hbc hba hbl hn1 hn2 ⊢
 obtain ⟨rfl,hbw⟩:=hba hn1
 have HNB:=h! hnb
 have HBX:=h! hbx
 have hn0:(0:Int) <= (nb:Int):=by omega
 clear hp ha hc hB hv hbx hnp hnb hba hf
 generalize f.arrays=ar at *
 generalize f.cells=ce at *
 have hmk:=run_make_row' (P:=Tryz.prog) 97 4 (.bool false) 1 Tryz.underlying97 qO rfl .i64 .i64 nb (by omega) (by omega)
 cases hg0:(gone == 0)
 ·have HGZ:Hid (gone ≠ 0):=h! (by simpa using hg0)
  go_enter Tryz.func61,Tryz.ntmps61
  go_upto_region 1 with (fail)
  have hA_:=(Below.refl w.heap.size w).alloc (aF _) (.cells #[.slice ap np cp,.int .i64 ar,.int .i64 ce,.slice (some ⟨bb,bo,none⟩) nb cb] 25)
  have HW:=h! hA_
  clear hA_
  have B1:=h! (Box.new w #[.slice ap np cp,.int .i64 ar,.int .i64 ce,.slice (some ⟨bb,bo,none⟩) nb cb] 25)
  generalize w.alloc (.cells #[.slice ap np cp,.int .i64 ar,.int .i64 ce,.slice (some ⟨bb,bo,none⟩) nb cb] 25)=wv at *
  obtain ⟨lB1,cB1,fB1⟩:=B1.out
  have hwv:=lB1
  go_upto_region 2 with (fail)
  have nBFB1:wv.heap.size ≠ w.heap.size:=fun e=>by have:=lB1;omega
  have nB1BF:w.heap.size ≠ wv.heap.size:=fun e=>nBFB1 e.symm
  clear lB1 cB1 fB1
  have hA_:=(Below.refl wv.heap.size wv).alloc (aF _) (.cells (madeCells #[.bool false] nb) 4)
  replace B1:=h! (B1.out.later hA_)
  replace HW:=h! (HW.out.trans (hA_.mono HW.out.size))
  clear hA_
  have BF:=h! (Box.new wv (madeCells #[.bool false] nb) 4)
  generalize wv.alloc (.cells (madeCells #[.bool false] nb) 4)=w2 at *
  obtain ⟨lB1,cB1,fB1⟩:=B1.out
  obtain ⟨lBF,cBF,fBF⟩:=BF.out
  clear hmk
  have HBF0:Hid (Box w2 wv.heap.size (fX (List.replicate nb false))):=h! (by rw [<-lT];exact BF.out)
  have hneB:w.heap.size ≠ wv.heap.size:=nB1BF
  have HG0:Hid (w.heap.size < wv.heap.size/\wv.heap.size < w2.heap.size):=h! (by have:=BF.out.lt;omega)
  obtain ⟨bf,hbf⟩ : ∃ bf,bf=wv.heap.size:=⟨_,rfl⟩
  rw [<-hbf] at HBF0 hneB HG0
  clear lB1 cB1 fB1 lBF cBF fBF
  clear BF nB1BF nBFB1
  simp only [<-hbf]
  clear hbf
  obtain ⟨lF,cF,fF⟩:=HBF0.out
  have hfl:(fX (List.replicate nb false))[0]? = some (.bool false):=jQ (by rw [List.getElem?_replicate,if_pos (by omega)])
  obtain ⟨lB1,cB1,fB1⟩:=B1.out
  go_upto_region 5 with (fail)
  clear hfl lF cF fF lB1 cB1 fB1
  have HBF:Hid (Box (w2.setCell ⟨bf,0,none⟩ (.bool true)) bf (fX ((List.replicate nb false).set 0 true))):=h! (by
   have:=HBF0.out.set 0 (.bool true)
   rwa [lV] at this)
  replace B1:=h! (B1.out.other (p:=⟨bf,0,none⟩) (.bool true) hneB)
  replace HW:=h! (HW.out.setCell (p:=⟨bf,0,none⟩) (by have:=HG0.out;simp only;omega) (.bool true))
  have hsz3:bf < (w2.setCell ⟨bf,0,none⟩ (.bool true)).heap.size:=HBF.out.lt
  clear HBF0
  generalize w2.setCell ⟨bf,0,none⟩ (.bool true)=w3 at *
  have HST:Hid (WInv f gone ((List.replicate nb false).set 0 true) [0]):=h! (by rw [HNB.out];exact WInv.start (by have:=HNB.out;omega) HGZ.out)
  have HCT:Hid (2 * ((List.replicate nb false).set 0 true).count false + [0].length <= 2048):=h! (by
   have:=List.count_le_length (a:=false) (l:=(List.replicate nb false).set 0 true)
   rw [bY,aV] at this
   simp only [bB,cD];omega)
  generalize (List.replicate nb false).set 0 true=s0 at *
  go_wp2_with fail
  have hbA:=(Below.refl w3.heap.size w3).alloc (aF _) (.cells #[.int .i64 0] 3)
  have HQ:Hid (Que (w3.alloc (.cells #[.int .i64 0] 3)) w.heap.size [w.heap.size,bf] (.slice (some ⟨w3.heap.size,0,none⟩) 1 1) (natI [0])):=h! (Que.one (Box.new _ _ _) HW.out.size (by have:=HG0.out;simp;omega))
  replace HBF:=h! (HBF.out.later hbA)
  replace B1:=h! (B1.out.later hbA)
  replace HW:=h! (HW.out.trans (hbA.mono HW.out.size))
  clear hbA hsz3
  generalize w3.alloc _=w4 at *
  go_loopw [6] (fun u wr => ∃ (s:List Bool) (q:List Nat),WInv f gone s q/\Que wr w.heap.size [w.heap.size,bf] u (natI q)/\Box wr bf (fX s)/\2 * s.count false+q.length <= 2048/\Below w.heap.size w wr/\Box wr w.heap.size #[.slice ap np cp,.int .i64 ar,.int .i64 ce,.slice (some ⟨bb,bo,none⟩) nb cb]) (fun u wr=>2 * qH wr bf nb+lenV u)
  case atStart=>exact ⟨s0,[0],HST.out,HQ.out,HBF.out,HCT.out,HW.out,B1.out⟩
  obtain ⟨s,q,hS,hQ,hF,hM,hW,hB1⟩:=hrel
  have HST:=h! hS
  replace HQ:=h! hQ
  replace HBF:=h! hF
  replace HCT:=h! hM
  replace HW:=h! hW
  replace B1:=h! hB1
  have HME:Hid (2 * qH wr bf nb+lenV u6=2 * s.count false+q.length):=h! (by rw [sW hF (by rw [hS.len,HNB.out]),hQ.lenV,fW])
  clear hS hQ hF hM hW hB1
  generalize wr=w5 at *
  by_cases hq0:0 < q.length
  ·obtain ⟨c,q,rfl⟩ : ∃ c q',q=c :: q':=by
    cases q with
    | nil=>simp at hq0
    | cons c q=>exact ⟨c,q,rfl⟩
   obtain ⟨qb,qo,qc,hqe,hqbase,hqbs,hql,hqn,hqm,hqcell,hqsp⟩:=HQ.out.ex
   rw [fW,bB] at hqe hqn
   subst hqe
   have hqc0:=hqcell 0 (c:Int) rfl
   rw [bW] at hqc0
   have hqcm:qc <= 9223372036854775807:=by unfold maxLen at hqm;omega
   obtain ⟨n,hn⟩ : ∃ n,n=q.length:=⟨_,rfl⟩
   have HN:=h! hn
   have hnM:n <= 2048:=by have:=HCT.out;rw [bB] at this;omega
   rw [<-hn] at hqn HQ ⊢
   have HQT:Hid (Que w5 w.heap.size [w.heap.size,bf] (.slice (if qc=1 then some ⟨qb,qo,none⟩ else some ⟨qb,qo+1,none⟩) n (qc - 1)) (natI q)):=h! (by
    have h9:=HQ.out
    rw [hn, <-fW q] at h9 ⊢
    exact h9.tail)
   obtain ⟨x,hjx⟩ : ∃ x,f.blocks[c]? = some x:=⟨_,aB (by have h8:=(aE.1 (HST.out.que c dG)).1;rw [HST.out.len] at h8;exact h8)⟩
   have hcl:c < nb:=by have h8:=(aE.1 hjx).1;have:=HNB.out;omega
   obtain ⟨api,aii,ati,cpi,cii,cti,hC⟩:=HBX.out c x hjx
   obtain ⟨ta,tc,tb0,to0,hte,htc,htm,hta,htx⟩:=hC.to.parts
   cases hte
   obtain ⟨k0,k1,k2,k3,k4,k5,q1,q2,q3,q4,q5,q6⟩:=hC.below HW.out hbw
   obtain ⟨tl,htl⟩ : ∃ tl,tl=x.term.to.length:=⟨_,rfl⟩
   rw [<-htl] at k4 htc
   have HTA:=h! hta
   have HTX:=h! htx
   have HTN:=h! htl
   have HTB:=h! (oN hjx)
   have HTR:=h! (HTO.out c x hjx)
   have HIN:Hid (WIn f gone c 0 s q):=h! HST.out.take
   have HCI:Hid (2 * s.count false+q.length <= 2 * s.count false+n):=h! (by rw [hn];exact aF _)
   have HMM:Hid (2 * s.count false+n <= 2047):=h! (by have:=HCT.out;rw [bB] at this;omega)
   have HME2:Hid (2 * qH w5 bf nb=2 * s.count false):=h! (by have h9:2 * qH w5 bf nb+(q.length+1)=2 * s.count false+(c :: q).length:=HME.out;rw [bB] at h9;omega)
   obtain ⟨M,hM⟩ : ∃ M,M=2 * s.count false+n:=⟨_,rfl⟩
   rw [<-hM] at HCI HMM
   have HM:=h! hM
   obtain ⟨l1,c1,f1⟩:=B1.out
   clear q1 q2 q3 q4 q5 q6 hC hjx k0 k1 k2 k3 k5 hta htx htl hqcell hqsp hqbase hqbs hM hn hq0 HME
   rcases Decidable.em (qc=1) with hqc | hqc
   all_goals
    try (subst hqc;obtain rfl:n=0:=by omega)
    go_upto_region 8 with (fail)
    clear hqc0
    go_wp2_with fail
    clear l1 c1 f1 k4
    go_loopw [6,9] (fun u i wr => ∃ (k:Nat) (s:List Bool) (q:List Nat),k <= tl/\i = .int .i64 k/\WIn f gone c k s q/\Que wr w.heap.size [w.heap.size,bf] u (natI q)/\Box wr bf (fX s)/\2 * s.count false+q.length <= M/\Below w.heap.size w wr/\Box wr w.heap.size #[.slice ap np cp,.int .i64 ar,.int .i64 ce,.slice (some ⟨bb,bo,none⟩) nb cb]) (fun _ i _=>tl - (intOf i).toNat)
    case atStart=>exact ⟨0,s,q,Nat.zero_le _,rfl,HIN.out,by first | simpa using HQT.out | simpa [hqc] using HQT.out,HBF.out,HCI.out,HW.out,B1.out⟩
    obtain ⟨k,s2,q2,hk,rfl,hS,hQ,hF,hM,hW,hB1⟩:=hrel
    replace HIN:=h! hS
    replace HQ:=h! hQ
    replace HBF:=h! hF
    replace HCI:=h! hM
    replace HW:=h! hW
    replace B1:=h! hB1
    have hq2l:q2.length <= 2047:=by have:=HMM.out;omega
    obtain ⟨qb2,qo2,qc2,hqe2, -⟩:=hQ.ex
    rw [fW] at hqe2
    subst hqe2
    clear hS hQ hF hM hW hB1
    generalize wr=w6 at *
    by_cases hlt:k < tl
    ·obtain ⟨rfl,hbt⟩:=HTA.out (by have:=HTN.out;omega)
     obtain ⟨t,ht⟩ : ∃ t,t=x.term.to.getD k 0:=⟨_,rfl⟩
     have htm2:x.term.to[k]? = some t:=by rw [ht];exact eX _ _ (by have:=HTN.out;omega)
     have htr:=HTR.out t (aG htm2)
     obtain ⟨tn,rfl⟩ : ∃ tn:Nat,t=(tn:Int):=⟨t.toNat,by omega⟩
     have htn:tn < nb:=by have:=HNB.out;omega
     have hct:w6.cell? ⟨tb0,to0+k,none⟩=some (.int .i64 tn):=by
      rw [HW.out.cell (p:=⟨tb0,to0+k,none⟩) hbt,HTX.out k (by have:=HTN.out;omega), <-ht]
     have HTK:Hid ((toB f c)[k]? = some tn):=h! (by rw [HTB.out,aU,htm2];simp)
     obtain ⟨l2,c2,f2⟩:=HBF.out
     obtain ⟨sb,hsb⟩ : ∃ sb,s2[tn]? = some sb:=⟨_,aB (by rw [HIN.out.len, <-HNB.out];exact htn)⟩
     have hfl:=jQ hsb
     have HSB:=h! hsb
     clear ht htm2 htr hsb
     cases sb
     ·cases hng:((tn:Int) != gone)
      ·have HNG:=h! hng
       go_wp2
       go_roundw
       case rel=>exact ⟨k+1,s2,q2,hlt,by go_num,HIN.out.old HTK.out (.inr (by have:=HNG.out;simpa using this)),HQ.out,HBF.out,HCI.out,HW.out,B1.out⟩
       simp [intOf];omega
      have HNG:Hid ((tn:Int) ≠ gone):=h! (by simpa using hng)
      go_upto_region 15 with (fail)
      clear l2 c2 f2 hfl
      have HF3:Hid (Box (w6.setCell ⟨bf,tn,none⟩ (.bool true)) bf (fX (s2.set tn true))):=h! (by have:=HBF.out.set tn (.bool true);rwa [lV] at this)
      have HQ3:=h! (HQ.out.other (p:=⟨bf,tn,none⟩) (.bool true) (by simp))
      have HW3:=h! (HW.out.setCell (p:=⟨bf,tn,none⟩) (by have:=HG0.out;simp only;omega) (.bool true))
      have HB3:=h! (B1.out.other (p:=⟨bf,tn,none⟩) (.bool true) hneB)
      have hct3:(w6.setCell ⟨bf,tn,none⟩ (.bool true)).cell? ⟨tb0,to0+k,none⟩=some (.int .i64 tn):=by
       rw [HW3.out.cell (p:=⟨tb0,to0+k,none⟩) hbt, <-HW.out.cell (p:=⟨tb0,to0+k,none⟩) hbt];exact hct
      clear hct
      generalize w6.setCell ⟨bf,tn,none⟩ (.bool true)=w7 at *
      have hbA:=(Below.refl w7.heap.size w7).alloc (aF _) (.cells #[.int .i64 tn] 3)
      have HQ4:=h! (HQ3.out.later hbA)
      have HX4:=h! (Box.new w7 #[.int .i64 tn] 3)
      have HF4:=h! (HF3.out.later hbA)
      have HB4:=h! (HB3.out.later hbA)
      have HW4:=h! (HW3.out.alloc HW3.out.size (.cells #[.int .i64 tn] 3))
      have hl7:=HF3.out.lt
      have hl8:=HB3.out.lt
      clear hbA
      go_wp2_with (at_builtin;refine yC rfl _ _ 22 3 rfl mA rfl rfl HQ4.out HX4.out (by rw [fW];omega) HW4.out.size (by intro y hy;simp at hy ⊢;omega) ?_;intro v9 w9 hQ9 hB9 hW9;have HQ9:=h! hQ9;have HF9:=h! (hB9 _ _ (by simp) HF4.out);have HB9:=h! (hB9 _ _ (by simp) HB4.out);have HW9:=h! (HW4.out.trans hW9);clear hQ9 hB9 hW9)
      have HQE:Hid (Que w9 w.heap.size [w.heap.size,bf] v9 (natI (q2 ++ [tn]))):=h! (by
       have e9:natI (q2 ++ [tn])=natI q2 ++ [(tn:Int)]:=by simp [natI]
       rw [e9];exact HQ9.out)
      have HCE:Hid (2 * (s2.set tn true).count false+(q2 ++ [tn]).length <= M):=h! (by
       have h1:=count_set HSB.out
       have h2:=HCI.out
       rw [aQ]
       simp only [bB,cD]
       omega)
      go_roundw
      case rel=>exact ⟨k+1,s2.set tn true,q2 ++ [tn],hlt,by go_num,HIN.out.new HTK.out HSB.out HNG.out,HQE.out,HF9.out,HCE.out,HW9.out,HB9.out⟩
      simp [intOf];omega
     go_wp2
     go_roundw
     case rel=>exact ⟨k+1,s2,q2,hlt,by go_num,HIN.out.old HTK.out (.inl HSB.out),HQ.out,HBF.out,HCI.out,HW.out,B1.out⟩
     simp [intOf];omega
    have hkl:k=tl:=by omega
    have HIE:Hid (WInv f gone s2 q2):=h! (by
     have h9:=HIN.out
     rw [hkl,HTN.out,show x.term.to.length=(toB f c).length by rw [HTB.out,bD]] at h9
     exact h9.done)
    have HFN:=h! (sW (n:=nb) HBF.out (by rw [HIE.out.len,HNB.out]))
    go_wp2
    go_roundw
    case rel=>exact ⟨s2,q2,HIE.out,HQ.out,HBF.out,by have h1:=HCI.out;have h2:=HMM.out;omega,HW.out,B1.out⟩
    have h1:=HFN.out
    have h2:=HCI.out
    have h3:=HME2.out
    have h4:=HM.out
    simp only [lenV]
    omega
  obtain rfl:q=[]:=cJ (by omega)
  obtain ⟨qb,qo,qc,hqe, -⟩:=HQ.out.ex
  subst hqe
  have HRS:=h! (HST.out.is)
  have HBO:=h! (sX (n:=nb) HBF.out (by rw [HST.out.len,HNB.out]) (by omega))
  simp only [natI,List.map_nil,cD] at *
  go_wp2
  go_ret
  exact ⟨_,s,rfl,HRS.out,HBO.out,HW.out⟩
 have hgz:gone=0:=by simpa using hg0
 subst hgz
 have HWZ:Hid (mW f 0 (List.replicate nb false)):=h! (by rw [HNB.out];exact sV f)
 go_enter Tryz.func61,Tryz.ntmps61
 go_upto_region 1 with (fail)
 have hA_:=(Below.refl w.heap.size w).alloc (aF _) (.cells #[.slice ap np cp,.int .i64 ar,.int .i64 ce,.slice (some ⟨bb,bo,none⟩) nb cb] 25)
 have HW:=h! hA_
 clear hA_
 have B1:=h! (Box.new w #[.slice ap np cp,.int .i64 ar,.int .i64 ce,.slice (some ⟨bb,bo,none⟩) nb cb] 25)
 generalize w.alloc (.cells #[.slice ap np cp,.int .i64 ar,.int .i64 ce,.slice (some ⟨bb,bo,none⟩) nb cb] 25)=wv at *
 obtain ⟨lB1,cB1,fB1⟩:=B1.out
 go_upto_region 2 with (fail)
 have nBFB1:wv.heap.size ≠ w.heap.size:=fun e=>by have:=lB1;omega
 have nB1BF:w.heap.size ≠ wv.heap.size:=fun e=>nBFB1 e.symm
 clear lB1 cB1 fB1
 have hA_:=(Below.refl wv.heap.size wv).alloc (aF _) (.cells (madeCells #[.bool false] nb) 4)
 replace B1:=h! (B1.out.later hA_)
 replace HW:=h! (HW.out.trans (hA_.mono HW.out.size))
 clear hA_
 have BF:=h! (Box.new wv (madeCells #[.bool false] nb) 4)
 generalize wv.alloc (.cells (madeCells #[.bool false] nb) 4)=w2 at *
 obtain ⟨lB1,cB1,fB1⟩:=B1.out
 obtain ⟨lBF,cBF,fBF⟩:=BF.out
 clear hmk
 have HBO:=h! (sX (n:=nb) (s:=List.replicate nb false) (by rw [<-lT];exact BF.out) (by simp) (by omega))
 go_wp2
 go_ret
 exact ⟨_,_,rfl,HWZ.out,HBO.out,HW.out⟩
end
end Go.Proofs.YtcmflfkpeodicaaGreat
