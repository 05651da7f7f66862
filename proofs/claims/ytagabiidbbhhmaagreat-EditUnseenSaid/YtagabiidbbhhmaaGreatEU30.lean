/- Part 30. -/
import Derived.Test.YtagabiidbbhhmaaGreatEU29
namespace Go.Proofs.YtagabiidbbhhmaaGreat
set_option linter.all false
section
open Go.RowKit
structure Que (W:World) (base:Nat) (bs:List Nat) (v:Value) (xs:List Int):Prop where
 ex:∃ (b off cap:Nat),v = .slice (some ⟨b,off,none⟩) xs.length cap/\base <= b/\b ∉ bs/\b < W.heap.size/\xs.length <= cap/\cap <= maxLen/\(∀ (j:Nat) (x:Int),xs[j]? = some x -> W.cell? ⟨b,off+j,none⟩=some (.int .i64 x)) /\
  ∀ j:Nat,j < cap -> (W.cell? ⟨b,off+j,none⟩).isSome=true/\W.frozen? ⟨b,off+j,none⟩=false
theorem Que.keep {W W' : World} {base:Nat} {bs:List Nat} {v:Value} {xs:List Int} (h:Que W base bs v xs) (hs:W.heap.size <= W'.heap.size) (hk:∀ g,v.ownBlock=some g \/ (∃ a n c,v = .slice (some a) n c/\a.block=g) -> W'.heap[g]? = W.heap[g]?):Que W' base bs v xs:=by
 obtain ⟨b,off,aa,e,h1,h2,h3,h4,h5,h6,h7⟩:=h.ex
 have hb:=hk b (.inr ⟨_,_,_,e,rfl⟩)
 exact ⟨b,off,aa,e,h1,h2,by omega,h4,h5,fun j x hj=>(World.cell?_of_block (w:=W) (a:=⟨b,off+j,none⟩) hb).trans (h6 j x hj),fun j hj=>by
  rw [World.cell?_of_block (w:=W) (a:=⟨b,off+j,none⟩) hb,World.frozen?_of_block (w:=W) (a:=⟨b,off+j,none⟩) hb];exact h7 j hj⟩
theorem Que.later {W W' : World} {base:Nat} {bs:List Nat} {v:Value} {xs:List Int} (h:Que W base bs v xs) (hb:Below W.heap.size W W'):Que W' base bs v xs:=by
 obtain ⟨b,off,aa,e,h1,h2,h3,h4,h5,h6,h7⟩:=h.ex
 have hh:=hb.block b h3
 exact ⟨b,off,aa,e,h1,h2,by have:=hb.size;omega,h4,h5,fun j x hj=>(World.cell?_of_block (w:=W) (a:=⟨b,off+j,none⟩) hh).trans (h6 j x hj),fun j hj=>by
  rw [World.cell?_of_block (w:=W) (a:=⟨b,off+j,none⟩) hh,World.frozen?_of_block (w:=W) (a:=⟨b,off+j,none⟩) hh];exact h7 j hj⟩
theorem Que.other {W:World} {base:Nat} {bs:List Nat} {v:Value} {xs:List Int} (h:Que W base bs v xs) {p:Addr} (u:Value) (hp:p.block ∈ bs):Que (W.setCell p u) base bs v xs:=by
 obtain ⟨b,off,aa,e,h1,h2,h3,h4,h5,h6,h7⟩:=h.ex
 have hh:=Below.heap_setCell W p u b (fun e=>h2 (e ▸ hp))
 exact ⟨b,off,aa,e,h1,h2,by simpa using h3,h4,h5,fun j x hj=>(World.cell?_of_block (w:=W) (a:=⟨b,off+j,none⟩) hh).trans (h6 j x hj),fun j hj=>by
  rw [World.cell?_of_block (w:=W) (a:=⟨b,off+j,none⟩) hh,World.frozen?_of_block (w:=W) (a:=⟨b,off+j,none⟩) hh];exact h7 j hj⟩
theorem Que.one {W:World} {base:Nat} {bs:List Nat} {b:Nat} {x:Int} (h:Box W b #[.int .i64 x]) (hb:base <= b) (hn:b ∉ bs):Que W base bs (.slice (some ⟨b,0,none⟩) 1 1) [x]:=by
 refine ⟨b,0,1,rfl,hb,hn,h.lt,aC _,by unfold maxLen;omega,fun j y hj => ?_,fun j hj => ?_⟩
 ·have:j=0:=by have:=(aD.1 hj).1;simp at this;omega
  subst this
  simp at hj;subst hj
  exact h.at 0 rfl
 have:j=0:=by omega
 subst this
 exact ⟨by rw [bH,h.at 0 rfl];rfl,h.free _⟩
theorem Que.tail {W:World} {base:Nat} {bs:List Nat} {b off cap:Nat} {x:Int} {xs:List Int} (h:Que W base bs (.slice (some ⟨b,off,none⟩) (xs.length+1) cap) (x :: xs)) :
  Que W base bs (.slice (if cap=1 then some ⟨b,off,none⟩ else some ⟨b,off+1,none⟩) xs.length (cap - 1)) xs:=by
 obtain ⟨b',off',cap',e,h1,h2,h3,h4,h5,h6,h7⟩:=h.ex
 cases e
 rw [bE] at h4
 by_cases hc:cap=1
 ·subst hc
  have hx:xs=[]:=bZ (by omega)
  subst hx
  exact ⟨b,off,0,rfl,h1,h2,h3,by simp,by unfold maxLen;omega,fun j x hj=>by simp at hj,fun j hj=>by omega⟩
 ·rw [if_neg hc]
  refine ⟨b,off+1,cap - 1,rfl,h1,h2,h3,by omega,by omega,fun j y hj => ?_,fun j hj => ?_⟩
  ·rw [show off+1+j=off+(j+1) by omega];exact h6 (j+1) y (by simpa using hj)
  rw [show off+1+j=off+(j+1) by omega];exact h7 (j+1) (by omega)
theorem Que.of_own {W:World} {base B:Nat} {bs:List Nat} {e:TypeId} {v:Value} {xs:List Int} (h:W.ownsRow B e 1 v xs.length (xs.map (.int .i64))) (hB:base <= B) (hbs:∀ b ∈ bs,b < B) (h0:0 < xs.length):Que W base bs v xs:=by
 rcases h.2 with ⟨rfl,h9⟩ | ⟨g,aa,ab,rfl,hb,hh,k1,k2,k3,k4⟩
 ·omega
 refine ⟨g,0,aa,rfl,by omega,fun hm=>by have:=hbs g hm;omega,(aM.1 hh).1,k1,k2,fun j x hj => ?_,fun j hj => ?_⟩
 ·have ac:=(aD.1 hj).1
  rw [bH]
  simp only [World.cell?,hh]
  have h5:=congrArg (fun l=>l[j]?) k4
  simp only [dW,aO,hj,cP] at h5
  rw [aW,if_pos ac] at h5
  simpa using h5
 rw [bH]
 refine ⟨?_,by simp [World.frozen?,hh]⟩
 simp only [World.cell?,hh]
 simp [show j < ab.size by omega]
theorem iS (w:World) (b o:Nat) (v:Value):w.setCells b o [v]=w.setCell ⟨b,o,none⟩ v:=rfl
theorem wH {P:Program} {w:World} {ops:Array Oper} {rest:List Oper} {o:Oper} {a:Act} {Q:Exit -> Act -> World -> Prop} (hgd:o.guard=none) (s x:Operand) (t e:TypeId)
  (ho:o.op = .call { callee:=.builtin .append,args:=#[s,x],argTypes:=#[t,t] }) (he:Elem P t e (.int .i64 0) 1 8) {base:Nat} {bs:List Nat}
  {v:Value} {xs:List Int} {y:Int} {B:Nat} (hs:a.eval s=v) (hx:a.eval x = .slice (some ⟨B,0,none⟩) 1 1) (HQ:Que w base bs v xs) (hB:Box w B #[.int .i64 y]) (hlen:xs.length <= 17592186044415) (hbase:base <= w.heap.size) (hbs:∀ b ∈ bs,b < w.heap.size)
  (h:∀ v' w',Que w' base bs v' (xs ++ [y]) -> (∀ b A,b ∈ bs -> Box w b A -> Box w' b A) -> Below base w w' -> wpList P ops Q rest (a.put o.dst v') w'):wpList P ops Q (o :: rest) a w:=by
 obtain ⟨ht,⟨i,hi,hz,ac,ae⟩,hzc,hp⟩:=he
 obtain ⟨b,off,ab,rfl,h1,h2,h3,h4,h5,h6,h7⟩:=HQ.ex
 have aa:xs.length+1 <= ab -> ∀ j,j < [Value.int .i64 y].length -> (w.cell? ⟨b,off+xs.length+j,none⟩).isSome=true:=fun hr j hj=>by
  have h0:j=0:=by simpa using hj
  subst h0
  exact (h7 xs.length (by omega)).1
 refine wpList_append_arg w hgd s x t ho e i (.int .i64 0) 1 8 ht hi hz ac ae rfl (by omega) b off xs.length ab (xs.map (.int .i64)) hs (by simp) (fun j u hj => ?_) ⟨B,0,none⟩ 1 1 [.int .i64 y] hx rfl (fun j u hj => ?_) (by simp [Value.oneCell']) (fun hr j hj => ?_) (by unfold maxLen;omega) (by omega) (fun hr => ?_) (fun hg v' w' r1 r2 => ?_)
 ·rw [aO] at hj
  obtain ⟨z,ad,rfl⟩:=Option.map_eq_some_iff.1 hj
  exact h6 j z ad
 ·have:j=0:=by have:=(aD.1 hj).1;simp at this;omega
  subst this
  simp at hj;subst hj
  rw [add_zero];exact hB.at 0 rfl
 ·simp only [bE,cI] at hj
  have h0:j=0:=by omega
  subst h0
  rw [dW,eN]
  exact h7 xs.length (by omega)
 ·rw [iS,dW]
  refine h _ _ ⟨b,off,ab,by rw [List.length_append];rfl,h1,h2,by simpa using h3,by rw [List.length_append];exact hr,h5,fun j z hj => ?_,fun j hj => ?_⟩ (fun b' A hb' hA=>hA.other _ (fun e=>h2 (by rw [<-show b' = b from e];exact hb'))) ((Below.refl _ _).setCell (p:=⟨b,off+xs.length,none⟩) h1 _)
  ·have hc:=World.cell?_setCells_in b [.int .i64 y] (off+xs.length) w (aa hr) 0 (by simp)
   rw [eN,iS] at hc
   rw [cR] at hj
   split at hj
   ·rename_i hjl
    have ho:=World.cell?_setCells_out b [.int .i64 y] (off+xs.length) w ⟨b,off+j,none⟩ (fun _ _=>Or.inl (by simp only;omega))
    rw [iS] at ho
    rw [ho];exact h6 j z hj
   rename_i hjl
   have:j=xs.length:=by
    have:=(aD.1 hj).1
    simp at this;omega
   subst this
   simp at hj;subst hj
   exact hc
  have hf:=World.frozen?_setCells b [.int .i64 y] (off+xs.length) w ⟨b,off+j,none⟩
  rw [iS] at hf
  rw [hf]
  refine ⟨?_,(h7 j hj).2⟩
  by_cases e:j=xs.length
  ·subst e
   have hc:=World.cell?_setCells_in b [.int .i64 y] (off+xs.length) w (aa hr) 0 (by simp)
   rw [eN,iS] at hc
   rw [hc];rfl
  have ho:=World.cell?_setCells_out b [.int .i64 y] (off+xs.length) w ⟨b,off+j,none⟩ (fun _ _=>by simp only [bE,cI];omega)
  rw [iS] at ho
  rw [ho];exact (h7 j hj).1
 ·refine h v' w' (Que.of_own (B:=w.heap.size) (e:=e) ?_ hbase hbs (by simp)) (fun b' A hb' hA => ?_) ((Below.refl _ _).grown r2 hbase (by simp))
  ·rw [aI,bD];exact r1
  exact hA.later ((Below.refl _ _).grown r2 (aC _) (by simp))
end
section
open Go.RowKit
structure WInv (f:FuncD) (gone:Int) (s:List Bool) (q:List Nat):Prop where
 len:s.length=f.blocks.length
 sound:∀ b:Nat,s[b]? = some true -> Way (toB f) gone b
 que:∀ b ∈ q,s[b]? = some true
 closed:∀ b:Nat,s[b]? = some true -> b ∉ q -> ∀ t ∈ toB f b,(t:Int) ≠ gone -> s[t]? = some true
 zero:s[0]? = some true
structure WIn (f:FuncD) (gone:Int) (c k:Nat) (s:List Bool) (q:List Nat):Prop where
 len:s.length=f.blocks.length
 sound:∀ b:Nat,s[b]? = some true -> Way (toB f) gone b
 que:∀ b ∈ q,s[b]? = some true
 cur:s[c]? = some true
 closed:∀ b:Nat,s[b]? = some true -> b ∉ q -> b ≠ c -> ∀ t ∈ toB f b,(t:Int) ≠ gone -> s[t]? = some true
 part:∀ t ∈ (toB f c).take k,(t:Int) ≠ gone -> s[t]? = some true
 zero:s[0]? = some true
theorem WInv.take {f:FuncD} {gone:Int} {s:List Bool} {c:Nat} {q:List Nat} (h:WInv f gone s (c :: q)):WIn f gone c 0 s q :=
 ⟨h.len,h.sound,fun b hb=>h.que b (bX _ hb),h.que c dJ,fun b hb hq hc=>h.closed b hb (by simp [hq,hc]),by simp,h.zero⟩
theorem WIn.old {f:FuncD} {gone:Int} {c k:Nat} {s:List Bool} {q:List Nat} {t:Nat} (h:WIn f gone c k s q) (hk:(toB f c)[k]? = some t) (ht:s[t]? = some true \/ (t:Int)=gone):WIn f gone c (k+1) s q :=
 ⟨h.len,h.sound,h.que,h.cur,h.closed,fun u hu hg=>by
  rw [eS _ _ _ hk] at hu
  rcases aL.1 hu with hu | hu
  ·exact h.part u hu hg
  simp at hu;subst hu
  exact ht.resolve_right hg,h.zero⟩
theorem WIn.new {f:FuncD} {gone:Int} {c k:Nat} {s:List Bool} {q:List Nat} {t:Nat} (h:WIn f gone c k s q) (hk:(toB f c)[k]? = some t) (ht:s[t]? = some false) (hg:(t:Int) ≠ gone):WIn f gone c (k+1) (s.set t true) (q ++ [t]):=by
 have aa:=(aD.1 ht).1
 have up:∀ b:Nat,s[b]? = some true -> (s.set t true)[b]? = some true:=fun b hb=>jZ.2 (.inl hb)
 have hn:(s.set t true)[t]? = some true:=jZ.2 (.inr ⟨rfl,aa⟩)
 refine ⟨by rw [bQ];exact h.len,fun b hb => ?_,fun b hb => ?_,up _ h.cur,fun b hb hq hc u hu hg2 => ?_,fun u hu hg2 => ?_,up _ h.zero⟩
 ·rcases jZ.1 hb with hb | ⟨rfl,_⟩
  ·exact h.sound b hb
  exact .step (h.sound c h.cur) (aG hk) hg
 ·rcases aL.1 hb with hb | hb
  ·exact up b (h.que b hb)
  simp at hb;subst hb;exact hn
 ·rcases jZ.1 hb with hb | ⟨rfl,_⟩
  ·exact up u (h.closed b hb (fun hm=>hq (aL.2 (.inl hm))) hc u hu hg2)
  exact absurd (aL.2 (.inr (by simp))) hq
 rw [eS _ _ _ hk] at hu
 rcases aL.1 hu with hu | hu
 ·exact up u (h.part u hu hg2)
 simp at hu;subst hu;exact hn
theorem WIn.done {f:FuncD} {gone:Int} {c:Nat} {s:List Bool} {q:List Nat} (h:WIn f gone c (toB f c).length s q):WInv f gone s q :=
 ⟨h.len,h.sound,h.que,fun b hb hq u hu hg=>by
  by_cases e:b=c
  ·subst e;exact h.part u (by rw [cV];exact hu) hg
  exact h.closed b hb hq e u hu hg,h.zero⟩
theorem WInv.is {f:FuncD} {gone:Int} {s:List Bool} (h:WInv f gone s []):mV f gone s :=
 ⟨h.len,fun b=>⟨h.sound b,fun hw=>by
  induction hw with
  | zero _=>exact h.zero
  | step _ ht hg ih=>exact h.closed _ ih (by simp) _ ht hg⟩⟩
theorem WInv.start {f:FuncD} {gone:Int} (hn:1 <= f.blocks.length) (hg:gone ≠ 0):WInv f gone ((List.replicate f.blocks.length false).set 0 true) [0]:=by
 have h0:∀ b:Nat,((List.replicate f.blocks.length false).set 0 true)[b]? = some true ↔ b=0:=fun b=>by
  rw [jZ]
  constructor
  ·rintro (h | ⟨h,_⟩)
   ·obtain ⟨h1,h2⟩:=aD.1 h
    simp at h2
   exact h
  intro h;exact .inr ⟨h,by rw [aQ];omega⟩
 refine ⟨by simp,fun b hb => ?_,fun b hb => ?_,fun b hb hq => ?_,(h0 0).2 rfl⟩
 ·rw [(h0 b).1 hb];exact .zero hg
 ·simp at hb;exact (h0 b).2 hb
 exact absurd ((h0 b).1 hb) (by simpa using hq)
theorem rD (f:FuncD):mV f 0 (List.replicate f.blocks.length false):=by
 refine ⟨by simp,fun b=>⟨fun h => ?_,fun h => ?_⟩⟩
 ·obtain ⟨h1,h2⟩:=aD.1 h
  simp at h2
 exfalso
 induction h with
 | zero h=>exact h rfl
 | step _ _ _ ih=>exact ih
def isF (v:Option Value):Bool:=match v with | some (.bool false)=>true | _=>false
def pK (W:World) (B n:Nat):Nat:=(List.range n).countP fun j=>isF (W.cell? ⟨B,j,none⟩)
theorem rE {W:World} {B n:Nat} {s:List Bool} (h:Box W B (gH s)) (hn:s.length=n):pK W B n=s.count false:=by
 subst hn
 have e1:s=(List.range s.length).map fun j=>s.getD j true:=by
  apply bG
  intro j
  by_cases hj:j < s.length
  ·simp [hj]
  simp [hj]
 have e2:s.count false=((List.range s.length).map fun j=>s.getD j true).count false:=by rw [<-e1]
 rw [e2]
 unfold pK List.count
 rw [List.countP_map]
 refine List.countP_congr fun j hj => ?_
 have aa:=cT.1 hj
 rw [h.cell]
 have e3:(gH s)[j]? = some (.bool (s.getD j true)):=jR (by rw [aN,aB aa];rfl)
 rw [e3]
 simp only [Function.comp]
 generalize s.getD j true=x
 cases x <;> simp [isF]
def lenV (v:Value):Nat:=match v with | .slice _ n _=>n | _=>0
theorem Que.lenV {W:World} {base:Nat} {bs:List Nat} {v:Value} {xs:List Int} (h:Que W base bs v xs):lenV v=xs.length:=by
 obtain ⟨b,off,cap,e,_⟩:=h.ex
 rw [e];rfl
theorem rF {W:World} {B n:Nat} {s:List Bool} (h:Box W B (gH s)) (hn:s.length=n) (hb:n <= 17592186044416):nW W (.slice (some ⟨B,0,none⟩) n n) s:=by
 subst hn
 have:=Row.of_box (n:=s.length) (size:=1) h (by simp [gH]) hb
 unfold gH at this
 unfold nW
 simpa using this
set_option maxHeartbeats 12800000 in
set_option maxRecDepth 100000 in
theorem nJ {w:World} {v:Value} {f:FuncD} {gone:Int} (hv:fP w v f) (hf:gW f=true):Calls Tryz.prog 75 #[v,.int .i64 gone] w fun e w' => ∃ rv S,e = .returned rv/\mV f gone S/\nW w' rv S/\Below w.heap.size w w':=by
 have dj:=h! (fun (b:Nat) (x:BlockD) (h:f.blocks[b]? = some x)=>oC hf h)
 obtain ⟨ck,cM⟩:=gG hf
 obtain ⟨ap,cp,ab,cb,rfl,hp,ha,hc,hB⟩:=hv.form
 obtain ⟨a2,c2,bb,bo,ee,di,hbm,ec,cd,cy⟩:=eW hB
 cases ee
 obtain ⟨np,cs⟩ : ∃ np,np=f.params.length:=⟨_,rfl⟩
 obtain ⟨nb,ca⟩ : ∃ nb,nb=f.blocks.length:=⟨_,rfl⟩
 rw [<-cs]
 rw [<-ca] at di cd ec ck cM ⊢
 obtain ⟨rfl,da⟩:=cd ck
 have aj:=h! ca
 have dd:=h! cy
 have hn0:(0:Int) <= (nb:Int):=by omega
 clear hp ha hc hB hv cy cs ca cd hf
 generalize f.arrays=ar at *
 generalize f.cells=ce at *
 have cz:=run_make_row' (P:=Tryz.prog) 124 4 (.bool false) 1 Tryz.underlying124 qC rfl .i64 .i64 nb (by omega) (by omega)
 cases hg0:(gone == 0)
 ·have dy:Hid (gone ≠ 0):=h! (by simpa using hg0)
  go_enter Tryz.func75,Tryz.ntmps75
  go_upto_region 1 with (fail)
  have ad:=(Below.refl w.heap.size w).alloc (aC _) (.cells #[.slice ap np cp,.int .i64 ar,.int .i64 ce,.slice (some ⟨bb,bo,none⟩) nb cb] 25)
  have HW:=h! ad
  clear ad
  have B1:=h! (Box.new w #[.slice ap np cp,.int .i64 ar,.int .i64 ce,.slice (some ⟨bb,bo,none⟩) nb cb] 25)
  generalize w.alloc (.cells #[.slice ap np cp,.int .i64 ar,.int .i64 ce,.slice (some ⟨bb,bo,none⟩) nb cb] 25)=wv at *
  obtain ⟨ae,ak,al⟩:=B1.out
  have hwv:=ae
  go_upto_region 2 with (fail)
  have ac:wv.heap.size ≠ w.heap.size:=fun e=>by have:=ae;omega
  have ag:w.heap.size ≠ wv.heap.size:=fun e=>ac e.symm
  clear ae ak al
  have ad:=(Below.refl wv.heap.size wv).alloc (aC _) (.cells (madeCells #[.bool false] nb) 4)
  replace B1:=h! (B1.out.later ad)
  replace HW:=h! (HW.out.trans (ad.mono HW.out.size))
  clear ad
  have BF:=h! (Box.new wv (madeCells #[.bool false] nb) 4)
  generalize wv.alloc (.cells (madeCells #[.bool false] nb) 4)=w2 at *
  obtain ⟨ae,ak,al⟩:=B1.out
  obtain ⟨cm,co,ct⟩:=BF.out
  clear cz
  have ah:Hid (Box w2 wv.heap.size (gH (List.replicate nb false))):=h! (by rw [<-lW];exact BF.out)
  have ax:w.heap.size ≠ wv.heap.size:=ag
  have bi:Hid (w.heap.size < wv.heap.size/\wv.heap.size < w2.heap.size):=h! (by have:=BF.out.lt;omega)
  obtain ⟨bf,bz⟩ : ∃ bf,bf=wv.heap.size:=⟨_,rfl⟩
  rw [<-bz] at ah ax bi
  clear ae ak al cm co ct
  clear BF ag ac
  simp only [<-bz]
  clear bz
  obtain ⟨lF,cF,fF⟩:=ah.out
  have bv:(gH (List.replicate nb false))[0]? = some (.bool false):=jR (by rw [List.getElem?_replicate,if_pos (by omega)])
  obtain ⟨ae,ak,al⟩:=B1.out
  go_upto_region 5 with (fail)
  clear bv lF cF fF ae ak al
  have aa:Hid (Box (w2.setCell ⟨bf,0,none⟩ (.bool true)) bf (gH ((List.replicate nb false).set 0 true))):=h! (by
   have:=ah.out.set 0 (.bool true)
   rwa [lX] at this)
  replace B1:=h! (B1.out.other (p:=⟨bf,0,none⟩) (.bool true) ax)
  replace HW:=h! (HW.out.setCell (p:=⟨bf,0,none⟩) (by have:=bi.out;simp only;omega) (.bool true))
  have bq:bf < (w2.setCell ⟨bf,0,none⟩ (.bool true)).heap.size:=aa.out.lt
  clear ah
  generalize w2.setCell ⟨bf,0,none⟩ (.bool true)=w3 at *
  have an:Hid (WInv f gone ((List.replicate nb false).set 0 true) [0]):=h! (by rw [aj.out];exact WInv.start (by have:=aj.out;omega) dy.out)
  have bg:Hid (2 * ((List.replicate nb false).set 0 true).count false + [0].length <= 2048):=h! (by
   have:=List.count_le_length (a:=false) (l:=(List.replicate nb false).set 0 true)
   rw [bQ,aQ] at this
   simp only [bE,cI];omega)
  generalize (List.replicate nb false).set 0 true=s0 at *
  go_wp2_with fail
  have ai:=(Below.refl w3.heap.size w3).alloc (aC _) (.cells #[.int .i64 0] 3)
  have HQ:Hid (Que (w3.alloc (.cells #[.int .i64 0] 3)) w.heap.size [w.heap.size,bf] (.slice (some ⟨w3.heap.size,0,none⟩) 1 1) (natI [0])):=h! (Que.one (Box.new _ _ _) HW.out.size (by have:=bi.out;simp;omega))
  replace aa:=h! (aa.out.later ai)
  replace B1:=h! (B1.out.later ai)
  replace HW:=h! (HW.out.trans (ai.mono HW.out.size))
  clear ai bq
  generalize w3.alloc _=w4 at *
  go_loopw [6] (fun u wr => ∃ (s:List Bool) (q:List Nat),WInv f gone s q/\Que wr w.heap.size [w.heap.size,bf] u (natI q)/\Box wr bf (gH s)/\2 * s.count false+q.length <= 2048/\Below w.heap.size w wr/\Box wr w.heap.size #[.slice ap np cp,.int .i64 ar,.int .i64 ce,.slice (some ⟨bb,bo,none⟩) nb cb]) (fun u wr=>2 * pK wr bf nb+lenV u)
  case atStart=>exact ⟨s0,[0],an.out,HQ.out,aa.out,bg.out,HW.out,B1.out⟩
  obtain ⟨s,q,hS,hQ,hF,hM,hW,bc⟩:=hrel
  have an:=h! hS
  replace HQ:=h! hQ
  replace aa:=h! hF
  replace bg:=h! hM
  replace HW:=h! hW
  replace B1:=h! bc
  have cr:Hid (2 * pK wr bf nb+lenV u6=2 * s.count false+q.length):=h! (by rw [rE hF (by rw [hS.len,aj.out]),hQ.lenV,fE])
  clear hS hQ hF hM hW bc
  generalize wr=w5 at *
  by_cases hq0:0 < q.length
  ·obtain ⟨c,q,rfl⟩ : ∃ c q',q=c :: q':=by
    cases q with
    | nil=>simp at hq0
    | cons c q=>exact ⟨c,q,rfl⟩
   obtain ⟨qb,qo,qc,bj,aw,bO,hql,ci,de,af,cg⟩:=HQ.out.ex
   rw [fE,bE] at bj ci
   subst bj
   have ba:=af 0 (c:Int) rfl
   rw [eN] at ba
   have hqcm:qc <= 9223372036854775807:=by unfold maxLen at de;omega
   obtain ⟨n,hn⟩ : ∃ n,n=q.length:=⟨_,rfl⟩
   have HN:=h! hn
   have hnM:n <= 2048:=by have:=bg.out;rw [bE] at this;omega
   rw [<-hn] at ci HQ ⊢
   have cn:Hid (Que w5 w.heap.size [w.heap.size,bf] (.slice (if qc=1 then some ⟨qb,qo,none⟩ else some ⟨qb,qo+1,none⟩) n (qc - 1)) (natI q)):=h! (by
    have h9:=HQ.out
    rw [hn, <-fE q] at h9 ⊢
    exact h9.tail)
   obtain ⟨x,be⟩ : ∃ x,f.blocks[c]? = some x:=⟨_,aB (by have h8:=(aD.1 (an.out.que c dJ)).1;rw [an.out.len] at h8;exact h8)⟩
   have hcl:c < nb:=by have h8:=(aD.1 be).1;have:=aj.out;omega
   obtain ⟨api,aii,ati,cpi,cii,cti,hC⟩:=dd.out c x be
   obtain ⟨ta,tc,az,ay,dr,dz,htm,cx,ch⟩:=hC.to.parts
   cases dr
   obtain ⟨k0,k1,k2,k3,k4,k5,q1,q2,q3,q4,q5,q6⟩:=hC.below HW.out da
   obtain ⟨tl,bn⟩ : ∃ tl,tl=x.term.to.length:=⟨_,rfl⟩
   rw [<-bn] at k4 dz
   have eb:=h! cx
   have dt:=h! ch
   have bh:=h! bn
   have cq:=h! (rR be)
   have dm:=h! (dj.out c x be)
   have ao:Hid (WIn f gone c 0 s q):=h! an.out.take
   have am:Hid (2 * s.count false+q.length <= 2 * s.count false+n):=h! (by rw [hn];exact aC _)
   have cc:Hid (2 * s.count false+n <= 2047):=h! (by have:=bg.out;rw [bE] at this;omega)
   have bm:Hid (2 * pK w5 bf nb=2 * s.count false):=h! (by have h9:2 * pK w5 bf nb+(q.length+1)=2 * s.count false+(c :: q).length:=cr.out;rw [bE] at h9;omega)
   obtain ⟨M,hM⟩ : ∃ M,M=2 * s.count false+n:=⟨_,rfl⟩
   rw [<-hM] at am cc
   have HM:=h! hM
   obtain ⟨l1,c1,f1⟩:=B1.out
   clear q1 q2 q3 q4 q5 q6 hC be k0 k1 k2 k3 k5 cx ch bn af cg aw bO hM hn hq0 cr
   rcases Decidable.em (qc=1) with bl | bl
   all_goals
    try (subst bl;obtain rfl:n=0:=by omega)
    go_upto_region 8 with (fail)
    clear ba
    go_wp2_with fail
    clear l1 c1 f1 k4
    go_loopw [6,9] (fun u i wr => ∃ (k:Nat) (s:List Bool) (q:List Nat),k <= tl/\i = .int .i64 k/\WIn f gone c k s q/\Que wr w.heap.size [w.heap.size,bf] u (natI q)/\Box wr bf (gH s)/\2 * s.count false+q.length <= M/\Below w.heap.size w wr/\Box wr w.heap.size #[.slice ap np cp,.int .i64 ar,.int .i64 ce,.slice (some ⟨bb,bo,none⟩) nb cb]) (fun _ i _=>tl - (intOf i).toNat)
    case atStart=>exact ⟨0,s,q,Nat.zero_le _,rfl,ao.out,by first | simpa using cn.out | simpa [bl] using cn.out,aa.out,am.out,HW.out,B1.out⟩
    obtain ⟨k,s2,q2,hk,rfl,hS,hQ,hF,hM,hW,bc⟩:=hrel
    replace ao:=h! hS
    replace HQ:=h! hQ
    replace aa:=h! hF
    replace am:=h! hM
    replace HW:=h! hW
    replace B1:=h! bc
    have hq2l:q2.length <= 2047:=by have:=cc.out;omega
    obtain ⟨qb2,qo2,qc2,bd, -⟩:=hQ.ex
    rw [fE] at bd
    subst bd
    clear hS hQ hF hM hW bc
    generalize wr=w6 at *
    by_cases hlt:k < tl
    ·obtain ⟨rfl,bs⟩:=eb.out (by have:=bh.out;omega)
     obtain ⟨t,ht⟩ : ∃ t,t=x.term.to.getD k 0:=⟨_,rfl⟩
     have aq:x.term.to[k]? = some t:=by rw [ht];exact fI _ _ (by have:=bh.out;omega)
     have df:=dm.out t (aG aq)
     obtain ⟨tn,rfl⟩ : ∃ tn:Nat,t=(tn:Int):=⟨t.toNat,by omega⟩
     have dn:tn < nb:=by have:=aj.out;omega
     have cw:w6.cell? ⟨az,ay+k,none⟩=some (.int .i64 tn):=by
      rw [HW.out.cell (p:=⟨az,ay+k,none⟩) bs,dt.out k (by have:=bh.out;omega), <-ht]
     have bp:Hid ((toB f c)[k]? = some tn):=h! (by rw [cq.out,aO,aq];simp)
     obtain ⟨l2,c2,f2⟩:=aa.out
     obtain ⟨sb,bw⟩ : ∃ sb,s2[tn]? = some sb:=⟨_,aB (by rw [ao.out.len, <-aj.out];exact dn)⟩
     have bv:=jR bw
     have cf:=h! bw
     clear ht aq df bw
     cases sb
     ·cases hng:((tn:Int) != gone)
      ·have bk:=h! hng
       go_wp2
       go_roundw
       case rel=>exact ⟨k+1,s2,q2,hlt,by go_num,ao.out.old bp.out (.inr (by have:=bk.out;simpa using this)),HQ.out,aa.out,am.out,HW.out,B1.out⟩
       simp [intOf];omega
      have bk:Hid ((tn:Int) ≠ gone):=h! (by simpa using hng)
      go_upto_region 15 with (fail)
      clear l2 c2 f2 bv
      have cv:Hid (Box (w6.setCell ⟨bf,tn,none⟩ (.bool true)) bf (gH (s2.set tn true))):=h! (by have:=aa.out.set tn (.bool true);rwa [lX] at this)
      have dp:=h! (HQ.out.other (p:=⟨bf,tn,none⟩) (.bool true) (by simp))
      have bx:=h! (HW.out.setCell (p:=⟨bf,tn,none⟩) (by have:=bi.out;simp only;omega) (.bool true))
      have cl:=h! (B1.out.other (p:=⟨bf,tn,none⟩) (.bool true) ax)
      have hct3:(w6.setCell ⟨bf,tn,none⟩ (.bool true)).cell? ⟨az,ay+k,none⟩=some (.int .i64 tn):=by
       rw [bx.out.cell (p:=⟨az,ay+k,none⟩) bs, <-HW.out.cell (p:=⟨az,ay+k,none⟩) bs];exact cw
      clear cw
      generalize w6.setCell ⟨bf,tn,none⟩ (.bool true)=w7 at *
      have ai:=(Below.refl w7.heap.size w7).alloc (aC _) (.cells #[.int .i64 tn] 3)
      have dk:=h! (dp.out.later ai)
      have dh:=h! (Box.new w7 #[.int .i64 tn] 3)
      have dl:=h! (cv.out.later ai)
      have ed:=h! (cl.out.later ai)
      have cL:=h! (bx.out.alloc bx.out.size (.cells #[.int .i64 tn] 3))
      have hl7:=cv.out.lt
      have hl8:=cl.out.lt
      clear ai
      go_wp2_with (at_builtin;refine wH rfl _ _ 22 3 rfl nK rfl rfl dk.out dh.out (by rw [fE];omega) cL.out.size (by intro y hy;simp at hy ⊢;omega) ?_;intro v9 w9 cB br cG;have ef:=h! cB;have ds:=h! (br _ _ (by simp) dl.out);have ea:=h! (br _ _ (by simp) ed.out);have eg:=h! (cL.out.trans cG);clear cB br cG)
      have dv:Hid (Que w9 w.heap.size [w.heap.size,bf] v9 (natI (q2 ++ [tn]))):=h! (by
       have e9:natI (q2 ++ [tn])=natI q2 ++ [(tn:Int)]:=by simp [natI]
       rw [e9];exact ef.out)
      have dc:Hid (2 * (s2.set tn true).count false+(q2 ++ [tn]).length <= M):=h! (by
       have h1:=count_set cf.out
       have h2:=am.out
       rw [aI]
       simp only [bE,cI]
       omega)
      go_roundw
      case rel=>exact ⟨k+1,s2.set tn true,q2 ++ [tn],hlt,by go_num,ao.out.new bp.out cf.out bk.out,dv.out,ds.out,dc.out,eg.out,ea.out⟩
      simp [intOf];omega
     go_wp2
     go_roundw
     case rel=>exact ⟨k+1,s2,q2,hlt,by go_num,ao.out.old bp.out (.inl cf.out),HQ.out,aa.out,am.out,HW.out,B1.out⟩
     simp [intOf];omega
    have dq:k=tl:=by omega
    have cj:Hid (WInv f gone s2 q2):=h! (by
     have h9:=ao.out
     rw [dq,bh.out,show x.term.to.length=(toB f c).length by rw [cq.out,bI]] at h9
     exact h9.done)
    have dx:=h! (rE (n:=nb) aa.out (by rw [cj.out.len,aj.out]))
    go_wp2
    go_roundw
    case rel=>exact ⟨s2,q2,cj.out,HQ.out,aa.out,by have h1:=am.out;have h2:=cc.out;omega,HW.out,B1.out⟩
    have h1:=dx.out
    have h2:=am.out
    have h3:=bm.out
    have h4:=HM.out
    simp only [lenV]
    omega
  obtain rfl:q=[]:=bZ (by omega)
  obtain ⟨qb,qo,qc,bj, -⟩:=HQ.out.ex
  subst bj
  have dg:=h! (an.out.is)
  have bt:=h! (rF (n:=nb) aa.out (by rw [an.out.len,aj.out]) (by omega))
  simp only [natI,eO,cI] at *
  go_wp2
  go_ret
  exact ⟨_,s,rfl,dg.out,bt.out,HW.out⟩
 have dw:gone=0:=by simpa using hg0
 subst dw
 have db:Hid (mV f 0 (List.replicate nb false)):=h! (by rw [aj.out];exact rD f)
 go_enter Tryz.func75,Tryz.ntmps75
 go_upto_region 1 with (fail)
 have ad:=(Below.refl w.heap.size w).alloc (aC _) (.cells #[.slice ap np cp,.int .i64 ar,.int .i64 ce,.slice (some ⟨bb,bo,none⟩) nb cb] 25)
 have HW:=h! ad
 clear ad
 have B1:=h! (Box.new w #[.slice ap np cp,.int .i64 ar,.int .i64 ce,.slice (some ⟨bb,bo,none⟩) nb cb] 25)
 generalize w.alloc (.cells #[.slice ap np cp,.int .i64 ar,.int .i64 ce,.slice (some ⟨bb,bo,none⟩) nb cb] 25)=wv at *
 obtain ⟨ae,ak,al⟩:=B1.out
 go_upto_region 2 with (fail)
 have ac:wv.heap.size ≠ w.heap.size:=fun e=>by have:=ae;omega
 have ag:w.heap.size ≠ wv.heap.size:=fun e=>ac e.symm
 clear ae ak al
 have ad:=(Below.refl wv.heap.size wv).alloc (aC _) (.cells (madeCells #[.bool false] nb) 4)
 replace B1:=h! (B1.out.later ad)
 replace HW:=h! (HW.out.trans (ad.mono HW.out.size))
 clear ad
 have BF:=h! (Box.new wv (madeCells #[.bool false] nb) 4)
 generalize wv.alloc (.cells (madeCells #[.bool false] nb) 4)=w2 at *
 obtain ⟨ae,ak,al⟩:=B1.out
 obtain ⟨cm,co,ct⟩:=BF.out
 clear cz
 have bt:=h! (rF (n:=nb) (s:=List.replicate nb false) (by rw [<-lW];exact BF.out) (by simp) (by omega))
 go_wp2
 go_ret
 exact ⟨_,_,rfl,db.out,bt.out,HW.out⟩
end
end Go.Proofs.YtagabiidbbhhmaaGreat
