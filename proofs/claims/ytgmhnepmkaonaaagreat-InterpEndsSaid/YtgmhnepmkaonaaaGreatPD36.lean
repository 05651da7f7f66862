/- Part 36. -/
import Derived.Test.YtgmhnepmkaonaaaGreatPD35
import Derived.Test.YtgmhnepmkaonaaaGreatPD31
import Derived.Test.YtgmhnepmkaonaaaGreatPD34
import Derived.Test.YtgmhnepmkaonaaaGreatPD14
namespace Go.Proofs.YtgmhnepmkaonaaaGreat
set_option linter.unusedSimpArgs false
set_option linter.unusedVariables false
open Go.RowKit
theorem ent_range {f:FuncD} (hn:1 <= f.blocks.length) {e:Int × Int × Int} (he:e ∈ entF f):0 <= e.2.1/\e.2.1 < (f.blocks.length:Int):=by
 unfold entF at he
 rcases List.mem_append.1 he with he | he
 ·unfold parN at he
  rw [List.mem_map] at he
  obtain ⟨j,_,rfl⟩:=he
  exact ⟨by show (0:Int) <= 0;omega,by show (0:Int) < _;omega⟩
 ·unfold blkN at he
  rw [List.mem_flatMap] at he
  obtain ⟨⟨x,c⟩,hx,he⟩:=he
  rw [List.take_length,List.mem_zipIdx_iff_getElem?] at hx
  have hc:c < f.blocks.length:=(List.getElem?_eq_some_iff.1 hx).1
  unfold entB at he
  have hd:e.2.1=(c:Int):=by
   rcases List.mem_append.1 he with he | he
   ·unfold phiN at he
    rw [List.mem_map] at he
    obtain ⟨p,_,rfl⟩:=he
    rfl
   ·unfold codN at he
    rw [List.mem_filterMap] at he
    obtain ⟨y,_,hy⟩:=he
    split at hy
    ·cases hy;rfl
    ·cases hy
  rw [hd]
  omega
theorem used_def {f:FuncD} (hc:checkF f=0) {u:UseD} (hu:u ∈ uxF f):∃ d k,((entF f).find? fun e=>e.1 == u.id)=some (u.id,d,k)/\0 <= d/\d < (f.blocks.length:Int):=by
 obtain ⟨h1,h2⟩:=check_fine hc
 have hev:=even_of h1
 have hp:u.pair ∈ usesF f:=by rw [<-ux_pairs hev];exact List.mem_map.2 ⟨u,hu,rfl⟩
 have h3:usesE (valsF f) (usesF f)=0:=by
  unfold checkF at hc
  rw [if_pos (by rw [h1,h2];rfl)] at hc
  exact hc
 have h4:(usesF f).any (fun u => !(tyOf (valsF f) u.1).isSome)=false:=by
  unfold usesE at h3
  cases h:(usesF f).any (fun u => !(tyOf (valsF f) u.1).isSome) with
  | false=>rfl
  | true=>rw [h,if_pos rfl] at h3;omega
 rw [List.any_eq_false] at h4
 have h5:=h4 u.pair hp
 have h6:u.id ∈ (entF f).map (·.1):=by
  rw [ent_keys hc]
  refine Classical.byContradiction fun h => ?_
  have h7:=tyOf_none.2 h
  have h8:u.pair.1=u.id:=rfl
  rw [h8,h7] at h5
  exact h5 rfl
 obtain ⟨e,he,hid⟩:=List.mem_map.1 h6
 cases hf:((entF f).find? fun e=>e.1 == u.id) with
 | none =>
  rw [List.find?_eq_none] at hf
  exact absurd (by simp [hid]) (hf e he)
 | some e2 =>
  have h9:=List.find?_some hf
  have h10:=List.mem_of_find?_eq_some hf
  simp only [beq_iff_eq] at h9
  obtain ⟨r1,r2⟩:=ent_range (formB_nb h1).1 h10
  obtain ⟨i,d,k⟩:=e2
  simp only at h9
  subst h9
  exact ⟨d,k,rfl,r1,r2⟩
theorem use_range {f:FuncD} (h:formB f=true) {u:UseD} (hu:u ∈ uxF f):0 <= u.blk/\u.blk < (f.blocks.length:Int)/\(u.pos < 0 -> 0 <= u.src/\u.src < (f.blocks.length:Int)):=by
 unfold uxF at hu
 rw [List.mem_flatMap] at hu
 obtain ⟨⟨x,c⟩,hx,hu⟩:=hu
 have hx2:=hx
 rw [List.mem_zipIdx_iff_getElem?] at hx
 have hc:c < f.blocks.length:=(List.getElem?_eq_some_iff.1 hx).1
 unfold formB at h
 simp only [Bool.and_eq_true,List.all_eq_true] at h
 have hok:=h.2 (x,c) hx2
 unfold blockOk at hok
 simp only [Bool.and_eq_true,List.all_eq_true] at hok
 unfold uxB at hu
 rw [List.append_assoc] at hu
 rcases List.mem_append.1 hu with hu | hu
 ·rw [List.mem_flatMap] at hu
  obtain ⟨p,hp,hu⟩:=hu
  have hpk:=hok.1.1.2 p hp
  unfold phiOk at hpk
  simp only [Bool.and_eq_true,List.all_eq_true] at hpk
  unfold uxP at hu
  rw [List.mem_map] at hu
  obtain ⟨vs,hvs,rfl⟩:=hu
  have hs:=List.of_mem_zip hvs
  have hn:=hpk.1.2 vs.2 hs.2
  unfold numB at hn
  simp at hn
  exact ⟨by show (0:Int) <= (c:Int);omega,by show (c:Int) < _;omega,fun _=>hn⟩
 ·rcases List.mem_append.1 hu with hu | hu
  ·rw [List.mem_flatMap] at hu
   obtain ⟨yk,hy,hu⟩:=hu
   unfold uxI at hu
   rw [List.mem_map] at hu
   obtain ⟨a,ha,rfl⟩:=hu
   exact ⟨by show (0:Int) <= (c:Int);omega,by show (c:Int) < _;omega,fun h=>by exfalso;have h:((yk.2:Nat):Int) < 0:=h;omega⟩
  ·unfold uxT at hu
   split at hu
   ·simp at hu
    subst hu
    exact ⟨by show (0:Int) <= (c:Int);omega,by show (c:Int) < _;omega,fun h=>by exfalso;have h:((x.code.length:Nat):Int) < 0:=h;omega⟩
   ·split at hu
    ·simp at hu
     subst hu
     exact ⟨by show (0:Int) <= (c:Int);omega,by show (c:Int) < _;omega,fun h=>by exfalso;have h:((x.code.length:Nat):Int) < 0:=h;omega⟩
    ·simp at hu
def UseOk (f:FuncD) (u:UseD):Prop := ∃ d k,((entF f).find? fun e=>e.1 == u.id)=some (u.id,d,k) /\
 ((u.pos < 0/\OverP f d.toNat u.src.toNat) \/ (¬ u.pos < 0/\AheadP f d k u.blk u.pos))
def FaultR (f : FuncD) (b e : Int) : Prop :=
  (∃ c : Nat, c < f.blocks.length ∧ ¬ Way (toB f) (-1) c ∧ (∀ d, d < c → Way (toB f) (-1) d) ∧ b = c ∧ e = 4) ∨
  ((∀ d, d < f.blocks.length → Way (toB f) (-1) d) ∧
    ((∃ (c : Nat) (x : BlockD), f.blocks[c]? = some x ∧ x.phis.all (phiFits (natI (predN f f.blocks.length 0 c))) = false ∧ (∀ (d : Nat) (y : BlockD), d < c → f.blocks[d]? = some y → y.phis.all (phiFits (natI (predN f f.blocks.length 0 d))) = true) ∧ b = c ∧ e = 5) ∨
     ((∀ (d : Nat) (y : BlockD), f.blocks[d]? = some y → y.phis.all (phiFits (natI (predN f f.blocks.length 0 d))) = true) ∧
      ((∃ (i : Nat) (u : UseD), (uxF f)[i]? = some u ∧ ¬ UseOk f u ∧ (∀ v ∈ (uxF f).take i, UseOk f v) ∧ b = u.blk ∧ e = 6) ∨
       ((∀ v ∈ uxF f, UseOk f v) ∧ b = 0 ∧ e = 0)))))
theorem fault_ok {f:FuncD}:FaultR f 0 0 ↔ (∀ d,d < f.blocks.length -> Way (toB f) (-1) d)/\(∀ (d:Nat) (y:BlockD),f.blocks[d]? = some y -> y.phis.all (phiFits (natI (predN f f.blocks.length 0 d)))=true) /\ ∀ v ∈ uxF f,UseOk f v:=by
 unfold FaultR
 constructor
 ·rintro (⟨c, -, -, -, -,h⟩ | ⟨h1,⟨c,x, -, -, -, -,h⟩ | ⟨h2,⟨i,u, -, -, -, -,h⟩ | ⟨h3, -, -⟩⟩⟩)
  ·cases h
  ·cases h
  ·cases h
  ·exact ⟨h1,h2,h3⟩
 ·rintro ⟨h1,h2,h3⟩
  exact .inr ⟨h1,.inr ⟨h2,.inr ⟨h3,rfl,rfl⟩⟩⟩
theorem toB_none {f:FuncD} {i:Nat} (h:f.blocks.length <= i):toB f i=[]:=by
 unfold toB
 rw [List.getD_eq_getElem?_getD,List.getElem?_eq_none h];rfl
theorem to_lt {f:FuncD} (hf:formB f=true) {i v:Nat} (h:v ∈ toB f i):v < f.blocks.length/\1 <= v/\i < f.blocks.length:=by
 have hi:i < f.blocks.length:=Classical.byContradiction fun h2=>by rw [toB_none (by omega)] at h;cases h
 obtain ⟨y,hy⟩ : ∃ y,f.blocks[i]? = some y:=⟨_,List.getElem?_eq_getElem hi⟩
 rw [toB_at hy,List.mem_map] at h
 obtain ⟨q,hq,rfl⟩:=h
 have:=formB_to hf hy q hq
 exact ⟨by omega,by omega,hi⟩
section
variable {f:FuncD} {b k t:Nat} {x:BlockD} {still:Bool}
end
theorem pred_mem {f:FuncD} {t p:Nat} (hp:p < f.blocks.length) (h:t ∈ toB f p):p ∈ predN f f.blocks.length 0 t:=by
 rw [predN_zero,List.mem_filter]
 exact ⟨List.mem_range.2 hp,List.contains_iff_mem.2 h⟩
def In (f:FuncD) (src:Int) (a:Nat):Prop:=(src = -1/\a=0) \/ ∃ b:Nat,src=b/\b < f.blocks.length/\a ∈ toB f b
theorem In.phis {f:FuncD} (hc:checkF f=0) (hF:FaultR f 0 0) {src:Int} {a:Nat} (h:In f src a) {x:BlockD} (hx:f.blocks[a]? = some x):∀ p ∈ x.phis,src ∈ p.src:=fun p hp=>by
 rcases h with ⟨rfl,rfl⟩ | ⟨b,rfl,hb,ha⟩
 ·have h1:=(blockOk_parts.1 ((check_zero.1 hc).2.2.1 0 x hx)).1 rfl
  rw [h1] at hp;cases hp
 ·have h1:=(fault_ok.1 hF).2.1 a x hx
  rw [List.all_eq_true] at h1
  have h2:=h1 p hp
  unfold phiFits at h2
  simp only [Bool.and_eq_true,List.all_eq_true] at h2
  have h3:=h2.2 (b:Int) (by unfold natI;exact List.mem_map.2 ⟨b,pred_mem hb ha,rfl⟩)
  exact List.contains_iff_mem.1 h3
theorem In.lt {f:FuncD} (hc:checkF f=0) {src:Int} {a:Nat} (h:In f src a):a < f.blocks.length:=by
 rcases h with ⟨rfl,rfl⟩ | ⟨b,rfl,hb,ha⟩
 ·exact (formB_nb (check_fine hc).1).1
 ·exact (to_lt (check_fine hc).1 ha).1
theorem oneS_go {fuel:Nat} {x:InstrD} {s:RunS} (h:¬ s.steps=fuel):oneS fuel x s=(instrS x { s with steps:=s.steps+1 }).bind fun v s2=>.go () (putS x v s2):=by
 unfold oneS stepS
 rw [if_neg h];rfl
theorem oneS_over {fuel:Nat} {x:InstrD} {s:RunS} (h:s.steps=fuel):oneS fuel x s = .over ⟨3,0,0⟩ s:=by
 unfold oneS stepS
 rw [if_pos h];rfl
theorem oneS_same {fuel:Nat} {x:InstrD} {s:RunS}:(oneS fuel x s).st.visits=s.visits/\s.steps <= (oneS fuel x s).st.steps/\(oneS fuel x s).st.steps <= s.steps+1/\((∃ s1,oneS fuel x s = .go () s1) -> (oneS fuel x s).st.steps=s.steps+1):=by
 by_cases h:s.steps=fuel
 ·rw [oneS_over h]
  exact ⟨rfl,Nat.le_refl _,by show s.steps <= _;omega,fun ⟨_,h⟩=>by cases h⟩
 ·rw [oneS_go h]
  have ha:=instr_after x { s with steps:=s.steps+1 }
  cases hi:instrS x { s with steps:=s.steps+1 } with
  | over o s2 =>
   rw [hi] at ha
   have h1:s2.steps=s.steps+1:=ha.stp
   refine ⟨ha.vis, ?_, ?_,fun _=>h1⟩
   ·show s.steps <= s2.steps;omega
   ·show s2.steps <= s.steps+1;omega
  | go v s2 =>
   rw [hi] at ha
   have h1:(putS x v s2).visits=s2.visits/\(putS x v s2).steps=s2.steps:=by unfold putS;split <;> exact ⟨rfl,rfl⟩
   have h2:s2.steps=s.steps+1:=ha.stp
   refine ⟨h1.1.trans ha.vis, ?_, ?_,fun _=>h1.2.trans h2⟩
   ·show s.steps <= (putS x v s2).steps;omega
   ·show (putS x v s2).steps <= s.steps+1;omega
theorem codeS_same {fuel:Nat}:∀ {xs:List InstrD} {s:RunS},(codeS fuel xs s).st.visits=s.visits/\s.steps <= (codeS fuel xs s).st.steps/\(codeS fuel xs s).st.steps <= s.steps+xs.length/\((∃ s1,codeS fuel xs s = .go () s1) -> (codeS fuel xs s).st.steps=s.steps+xs.length)
 | [],s=>⟨rfl,Nat.le_refl _,by show s.steps <= _;simp,fun _=>rfl⟩
 | x :: xs,s=>by
  obtain ⟨h1,h2,h3,h4⟩:=oneS_same (fuel:=fuel) (x:=x) (s:=s)
  unfold codeS
  cases ho:oneS fuel x s with
  | over o s2 =>
   rw [ho] at h1 h2 h3
   refine ⟨h1,h2, ?_,fun ⟨_,h⟩=>by cases h⟩
   show s2.steps <= _
   simp only [Res.st] at h3
   rw [List.length_cons];omega
  | go u s2 =>
   rw [ho] at h1 h2 h3 h4
   obtain ⟨k1,k2,k3,k4⟩:=codeS_same (fuel:=fuel) (xs:=xs) (s:=s2)
   have h5:=h4 ⟨s2,rfl⟩
   simp only [Res.st] at h1 h2 h3 h5
   show (codeS fuel xs s2).st.visits=_/\s.steps <= (codeS fuel xs s2).st.steps/\(codeS fuel xs s2).st.steps <= _/\((∃ s1,codeS fuel xs s2 = .go () s1) -> (codeS fuel xs s2).st.steps=_)
   rw [List.length_cons]
   exact ⟨k1.trans h1,by omega,by omega,fun h=>by have:=k4 h;omega⟩
structure Gone (f:FuncD) (fuel:Nat) (a:Nat) (x:BlockD) (s s2:RunS) (to:Int):Prop where
 good:GoodS f fuel s2
 steps:s2.steps=s.steps+x.code.length+1
 visits:s2.visits=s.visits.modify a (· + 1)
 to:∃ t:Nat,to=t/\t ∈ toB f a
theorem block_go {f:FuncD} {fuel:Nat} {src to:Int} {a:Nat} {s s2:RunS} {x:BlockD} (hc:checkF f=0) (hG:GoodS f fuel s) (hx:f.blocks[a]? = some x) (hs:∀ p ∈ x.phis,src ∈ p.src) (h:blockR f fuel src a s = .go to s2):Gone f fuel a x s s2 to:=by
 have hxm:=List.mem_of_getElem? hx
 have hal:=(List.getElem?_eq_some_iff.1 hx).1
 unfold blockR at h
 rw [getD_some hx] at h
 have g1:=(hG.visit a).phis hc hx hs
 have hp:(phisR x src (visitS a s)).steps=s.steps/\(phisR x src (visitS a s)).visits=s.visits.modify a (· + 1):=by
  unfold phisR
  rw [putsS_keep]
  exact ⟨rfl,rfl⟩
 cases hcd:codeS fuel x.code (phisR x src (visitS a s)) with
 | over o s3=>rw [hcd] at h;cases h
 | go u s3 =>
  rw [hcd] at h
  obtain ⟨k1, -, -,k4⟩:=codeS_same (fuel:=fuel) (xs:=x.code) (s:=phisR x src (visitS a s))
  rw [hcd] at k1 k4
  have k5:=k4 ⟨s3,rfl⟩
  simp only [Res.st] at k1 k5
  have g3:=g1.code hc hxm (fun y hy=>hy) hcd
  change (stepS fuel s3).bind (fun _ s2=>endR x.term s2)=_ at h
  cases hst:stepS fuel s3 with
  | over o s4=>rw [hst] at h;cases h
  | go u s4 =>
   rw [hst] at h
   obtain ⟨e4,g4, -⟩:=g3.step hst
   change endR x.term s4=_ at h
   have hend:s2=s4 /\ ∃ k:Nat,k < x.term.to.length/\to=x.term.to.getD k 0:=by
    have hk:=(blockOk_parts.1 ((check_zero.1 hc).2.2.1 a x hx)).2.2.2
    unfold endOk at hk
    simp only [Bool.and_eq_true,Bool.or_eq_true,beq_iff_eq] at hk
    unfold endR at h
    split at h
    ·cases h
    ·split at h
     ·cases h
     ·split at h
      ·rename_i h2
       injection h with h h'
       refine ⟨h'.symm,_, ?_,h.symm⟩
       have hl:x.term.to.length=2:=by
        rcases hk.2 with ((h8 | h8) | h8) | h8
        ·have:=h8.1.1.1;omega
        ·exact h8.1.2
        ·have:=h8.1.1;omega
        ·have:=h8.1.1.1;omega
       have hfl:=g4.flag _ (use_type hc (branch_use hxm h2) (by simp))
       simp only at hfl
       rcases hfl with h9 | h9 <;> rw [h9,hl] <;> decide
      ·rename_i n3 n4 n2
       injection h with h h'
       refine ⟨h'.symm,0, ?_,h.symm⟩
       rcases hk.2 with ((h8 | h8) | h8) | h8
       ·rw [h8.1.1.2];omega
       ·exact absurd h8.1.1 n2
       ·exact absurd h8.1.1 n3
       ·exact absurd h8.1.1.1 n4
   obtain ⟨e2,k,hkl,hto⟩:=hend
   subst e2
   refine ⟨g4, ?_, ?_, ?_⟩
   ·rw [e4];show s3.steps+1=_;omega
   ·rw [e4];show s3.visits=_;rw [k1,hp.2]
   ·have hq:x.term.to[k]? = some to:=by rw [hto,List.getD_eq_getElem?_getD,List.getElem?_eq_getElem hkl];rfl
    have h1:=formB_to (check_fine hc).1 hx to (List.mem_of_getElem? hq)
    refine ⟨to.toNat,by omega, ?_⟩
    rw [toB_at hx,List.mem_map]
    exact ⟨to,List.mem_of_getElem? hq,rfl⟩
theorem gives_osnoc {α : Type} {R:World -> Foot -> List Value -> α -> Prop} (hR:Nice R) {P:Program} {w:World} {o:Oper} {a:Act} (s x:Operand) (t e:TypeId)
  (ho:o.op = .call { callee:=.builtin .append,args:=#[s,x],argTypes:=#[t,t] }) {z:Value} {size bytes:Nat} (he:Elem P t e z size bytes)
  {v:Value} {B:Nat} {ds:List Value} (hs:a.eval s=v) (hx:a.eval x = .slice (some ⟨B,0,none⟩) 1 1) {bs:List Nat} {base:Nat} {S Fn:Foot} {xs:List α} {y : α} {n:Nat} (hn:xs.length=n)
  (H:Holds bs base w S (fun W=>OSl R e size W S v xs)) (hB:Box w B ds.toArray) (hds:ds.length=size) (hel:R w Fn ds y) (hF:Fn.off S) (hFb:Fresh base Fn) (hbs:∀ b ∈ bs,b < base) (hbase:base <= w.heap.size)
  (h1:∀ u ∈ ds,u.oneCell' = true) (hlen:n+1 <= 17592186044416) (hbytes:(n+1) * bytes <= 140737488355328) {XF:Nat -> Foot} {i lim:Nat} (hFl:∀ k,Fn k -> lim <= k) (hl:lim <= w.heap.size) (hX:∀ k,S k -> XF i k) :
  ∃ u w'',(execOp a.eval o).run P w = .ok (.value u) w'' /\ (∃ S',Holds bs base w'' S' (fun W=>OSl R e size W S' u (xs ++ [y]))/\(∀ k,S' k -> S k \/ lim <= k) /\ ∃ g cap,u = .slice (some ⟨g,0,none⟩) (n+1) cap)/\Four.Step XF (fun _=>True) i w w'':=by
 obtain ⟨v',w',S',q0,q1,q2,q3,q4⟩:=exec_osnoc hR s x t e ho he hs hx hn H hB hds hel hF hFb hbs hbase h1 hlen hbytes
 refine ⟨v',w',q0,⟨S',q1,fun k hk => ?_,q4⟩,q3.mono fun k _ hk=>hX k hk,fun h=>h⟩
 rcases q2 k hk with h | h | h
 ·exact .inl h
 ·exact .inr (hFl k h)
 ·exact .inr (by omega)
theorem Off.frozen {S:Foot} {W W' : World} (h:Off S W W') {b o:Nat} (hl:b < W.heap.size) (hn:¬ S b):W'.frozen? ⟨b,o,none⟩=W.frozen? ⟨b,o,none⟩:=World.frozen?_of_block (w:=W) (a:=⟨b,o,none⟩) (h.block b hl hn)
theorem wpList_iapp {w:World} {ops:Array Oper} {rest:List Oper} {o:Oper} {a:Act} {Q:Exit -> Act -> World -> Prop} (hgd:o.guard=none) (s x:Operand)
  (ho:o.op = .call { callee:=.builtin .append,args:=#[s,x],argTypes:=#[22,22] }) {v:Value} {B:Nat} {y:Int} (hs:a.eval s=v) (hx:a.eval x = .slice (some ⟨B,0,none⟩) 1 1) {S:Foot} {xs:List Int} {n:Nat} (hn:xs.length=n)
  (H:OInts w S v xs) (hB:Box w B #[.int .i64 y]) (hy:In64 y) (hlen:n+1 <= 100000)
  (hK:∀ g cap w',OInts w' (Foot.one g) (.slice (some ⟨g,0,none⟩) (n+1) cap) (xs ++ [y]) -> (S g \/ w.heap.size <= g) -> Off S w w' -> wpList Tryz.prog ops Q rest (a.put o.dst (.slice (some ⟨g,0,none⟩) (n+1) cap)) w'):wpList Tryz.prog ops Q (o :: rest) a w:=by
 refine wpList_oapp (P:=Tryz.prog) hgd s x 22 3 ho elInt hs hx H.1 (row_box (n:=1) (size:=1) (ds:=[.int .i64 y]) hB rfl (by omega)) (by intro u hu;simp at hu;subst hu;rfl) (by omega) (by omega) fun v' w' G' r1 r2 r3 => ?_
 have hO:OInts w' G' v' (xs ++ [y]):=by
  refine ⟨?_,fun z hz => ?_⟩
  ·rw [List.length_append,List.map_append];exact r1
  ·rcases List.mem_append.1 hz with h | h
   ·exact H.2 z h
   ·simp at h;subst h;exact hy
 obtain ⟨g,cap,rfl,hg, -⟩:=hO.1.addr (by simp)
 have hl:(xs ++ [y]).length=n+1:=by simp [hn]
 rw [hl] at hO ⊢
 obtain ⟨k1,k2⟩:=hO.narrow (by omega)
 exact hK g cap w' k1 (r2 g k2) r3
end Go.Proofs.YtgmhnepmkaonaaaGreat
