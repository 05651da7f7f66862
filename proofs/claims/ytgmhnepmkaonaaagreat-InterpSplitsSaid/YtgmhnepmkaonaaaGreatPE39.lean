/- Part 39. -/
import Derived.Test.YtgmhnepmkaonaaaGreatPE38
import Derived.Test.YtgmhnepmkaonaaaGreatPE33
import Derived.Test.YtgmhnepmkaonaaaGreatPE37
namespace Go.Proofs.YtgmhnepmkaonaaaGreat
set_option linter.all false
open Go.RowKit
theorem oT {f:FuncD} (hn:1 <= f.blocks.length) {e:Int × Int × Int} (he:e ∈ entF f):0 <= e.2.1/\e.2.1 < (f.blocks.length:Int):=by
 unfold entF at he
 rcases aK.1 he with he | he
 ·unfold parN at he
  rw [aZ] at he
  obtain ⟨j,_,rfl⟩:=he
  exact ⟨by show (0:Int) <= 0;omega,by show (0:Int) < _;omega⟩
 unfold blkN at he
 rw [bK] at he
 obtain ⟨⟨x,c⟩,hx,he⟩:=he
 rw [cT,bR] at hx
 have hc:c < f.blocks.length:=(aD.1 hx).1
 unfold entB at he
 have hd:e.2.1=(c:Int):=by
  rcases aK.1 he with he | he
  ·unfold phiN at he
   rw [aZ] at he
   obtain ⟨p,_,rfl⟩:=he
   rfl
  unfold codN at he
  rw [List.mem_filterMap] at he
  obtain ⟨y,_,hy⟩:=he
  split at hy
  ·cases hy;rfl
  cases hy
 rw [hd]
 omega
theorem mU {f:FuncD} (hc:d7 f=0) {u:UseD} (hu:u ∈ uxF f):∃ d k,((entF f).find? fun e=>e.1 == u.id)=some (u.id,d,k)/\0 <= d/\d < (f.blocks.length:Int):=by
 obtain ⟨h1,h2⟩:=eX hc
 have hev:=jC h1
 have hp:u.pair ∈ kC f:=by rw [<-vD hev];exact aZ.2 ⟨u,hu,rfl⟩
 have h3:kD (eY f) (kC f)=0:=by
  unfold d7 at hc
  rw [if_pos (by rw [h1,h2];rfl)] at hc
  exact hc
 have h4:(kC f).any (fun u => !(tyOf (eY f) u.1).isSome)=false:=by
  unfold kD at h3
  cases h:(kC f).any (fun u => !(tyOf (eY f) u.1).isSome) with
  | false=>rfl
  | true=>rw [h,if_pos rfl] at h3;omega
 rw [List.any_eq_false] at h4
 have h5:=h4 u.pair hp
 have h6:u.id ∈ (entF f).map (·.1):=by
  rw [qX hc]
  refine Classical.byContradiction fun h => ?_
  have h7:=kN.2 h
  have h8:u.pair.1=u.id:=rfl
  rw [h8,h7] at h5
  exact h5 rfl
 obtain ⟨e,he,hid⟩:=aZ.1 h6
 cases hf:((entF f).find? fun e=>e.1 == u.id) with
 | none =>
  rw [List.find?_eq_none] at hf
  exact absurd (by simp [hid]) (hf e he)
 | some e2 =>
  have h9:=List.find?_some hf
  have h10:=dM hf
  simp only [beq_iff_eq] at h9
  obtain ⟨r1,r2⟩:=oT (gU h1).1 h10
  obtain ⟨i,d,k⟩:=e2
  simp only at h9
  subst h9
  exact ⟨d,k,rfl,r1,r2⟩
theorem rZ {f:FuncD} (h:gJ f=true) {u:UseD} (hu:u ∈ uxF f):0 <= u.blk/\u.blk < (f.blocks.length:Int)/\(u.pos < 0 -> 0 <= u.src/\u.src < (f.blocks.length:Int)):=by
 unfold uxF at hu
 rw [bK] at hu
 obtain ⟨⟨x,c⟩,hx,hu⟩:=hu
 have hx2:=hx
 rw [bR] at hx
 have hc:c < f.blocks.length:=(aD.1 hx).1
 unfold gJ at h
 simp only [aI,aU] at h
 have hok:=h.2 (x,c) hx2
 unfold fU at hok
 simp only [aI,aU] at hok
 unfold uxB at hu
 rw [bV] at hu
 rcases aK.1 hu with hu | hu
 ·rw [bK] at hu
  obtain ⟨p,hp,hu⟩:=hu
  have hpk:=hok.1.1.2 p hp
  unfold iH at hpk
  simp only [aI,aU] at hpk
  unfold uxP at hu
  rw [aZ] at hu
  obtain ⟨vs,hvs,rfl⟩:=hu
  have hs:=List.of_mem_zip hvs
  have hn:=hpk.1.2 vs.2 hs.2
  unfold numB at hn
  simp at hn
  exact ⟨by show (0:Int) <= (c:Int);omega,by show (c:Int) < _;omega,fun _=>hn⟩
 rcases aK.1 hu with hu | hu
 ·rw [bK] at hu
  obtain ⟨yk,hy,hu⟩:=hu
  unfold uxI at hu
  rw [aZ] at hu
  obtain ⟨a,ha,rfl⟩:=hu
  exact ⟨by show (0:Int) <= (c:Int);omega,by show (c:Int) < _;omega,fun h=>by exfalso;have h:((yk.2:Nat):Int) < 0:=h;omega⟩
 unfold uxT at hu
 split at hu
 ·simp at hu
  subst hu
  exact ⟨by show (0:Int) <= (c:Int);omega,by show (c:Int) < _;omega,fun h=>by exfalso;have h:((x.code.length:Nat):Int) < 0:=h;omega⟩
 split at hu
 ·simp at hu
  subst hu
  exact ⟨by show (0:Int) <= (c:Int);omega,by show (c:Int) < _;omega,fun h=>by exfalso;have h:((x.code.length:Nat):Int) < 0:=h;omega⟩
 simp at hu
def gL (f:FuncD) (u:UseD):Prop := ∃ d k,((entF f).find? fun e=>e.1 == u.id)=some (u.id,d,k) /\
 ((u.pos < 0/\jP f d.toNat u.src.toNat) \/ (¬ u.pos < 0/\kK f d k u.blk u.pos))
def fM (f : FuncD) (b e : Int) : Prop :=
  (∃ c : Nat, c < f.blocks.length ∧ ¬ Way (toB f) (-1) c ∧ (∀ d, d < c → Way (toB f) (-1) d) ∧ b = c ∧ e = 4) ∨
  ((∀ d, d < f.blocks.length → Way (toB f) (-1) d) ∧
    ((∃ (c : Nat) (x : BlockD), f.blocks[c]? = some x ∧ x.phis.all (fN (natI (fO f f.blocks.length 0 c))) = false ∧ (∀ (d : Nat) (y : BlockD), d < c → f.blocks[d]? = some y → y.phis.all (fN (natI (fO f f.blocks.length 0 d))) = true) ∧ b = c ∧ e = 5) ∨
     ((∀ (d : Nat) (y : BlockD), f.blocks[d]? = some y → y.phis.all (fN (natI (fO f f.blocks.length 0 d))) = true) ∧
      ((∃ (i : Nat) (u : UseD), (uxF f)[i]? = some u ∧ ¬ gL f u ∧ (∀ v ∈ (uxF f).take i, gL f v) ∧ b = u.blk ∧ e = 6) ∨
       ((∀ v ∈ uxF f, gL f v) ∧ b = 0 ∧ e = 0)))))
theorem qV {f:FuncD}:fM f 0 0 ↔ (∀ d,d < f.blocks.length -> Way (toB f) (-1) d)/\(∀ (d:Nat) (y:BlockD),f.blocks[d]? = some y -> y.phis.all (fN (natI (fO f f.blocks.length 0 d)))=true) /\ ∀ v ∈ uxF f,gL f v:=by
 unfold fM
 constructor
 ·rintro (⟨c, -, -, -, -,h⟩ | ⟨h1,⟨c,x, -, -, -, -,h⟩ | ⟨h2,⟨i,u, -, -, -, -,h⟩ | ⟨h3, -, -⟩⟩⟩)
  ·cases h
  ·cases h
  ·cases h
  exact ⟨h1,h2,h3⟩
 rintro ⟨h1,h2,h3⟩
 exact .inr ⟨h1,.inr ⟨h2,.inr ⟨h3,rfl,rfl⟩⟩⟩
theorem nQ {α : Type} {l:List α} {k:Nat} {t v n : α} (h:v ∈ l) (hk:l[k]? = some t):v=t \/ v ∈ l.set k n:=by
 obtain ⟨j,hj⟩:=cU h
 by_cases e:k=j
 ·subst e
  rw [hk] at hj
  cases hj;exact .inl rfl
 refine .inr (aG (i:=j) ?_)
 rw [bP,if_neg e,hj]
theorem qW {f:FuncD} {i:Nat} (h:f.blocks.length <= i):toB f i=[]:=by
 unfold toB
 rw [aH,aX h];rfl
theorem aC6 {f:FuncD} (hf:gJ f=true) {i v:Nat} (h:v ∈ toB f i):v < f.blocks.length/\1 <= v/\i < f.blocks.length:=by
 have hi:i < f.blocks.length:=Classical.byContradiction fun h2=>by rw [qW (by omega)] at h;cases h
 obtain ⟨y,hy⟩ : ∃ y,f.blocks[i]? = some y:=⟨_,aC hi⟩
 rw [iR hy,aZ] at h
 obtain ⟨q,hq,rfl⟩:=h
 have:=kX hf hy q hq
 exact ⟨by omega,by omega,hi⟩
section
variable {f:FuncD} {b k t:Nat} {x:BlockD} {still:Bool}
theorem lH {i:Nat} (h:i < f.blocks.length) (hne:i ≠ b):toB (eZ f b k t still) i=toB f i:=by
 obtain ⟨y,hy⟩ : ∃ y,f.blocks[i]? = some y:=⟨_,aC h⟩
 have hg:=iJ f b k t still i
 rw [if_pos h,hy,cG] at hg
 rw [iR hg,iR hy]
 split
 ·rfl
 rfl
theorem iD (hb:f.blocks[b]? = some x):toB (eZ f b k t still) b=(toB f b).set k f.blocks.length:=by
 have hbl:=(aD.1 hb).1
 have hg:=iJ f b k t still b
 rw [if_pos hbl,hb,cG] at hg
 rw [iR hg,iR hb]
 have:(fR k f.blocks.length x).term.to.map Int.toNat=(x.term.to.map Int.toNat).set k f.blocks.length:=by
  unfold fR
  simp only [List.map_set]
  congr 1
 simp only [if_true]
 split
 ·exact this
 exact this
theorem kT:toB (eZ f b k t still) f.blocks.length=[t]:=by
 have hg:=iJ f b k t still f.blocks.length
 rw [if_neg (by omega),if_pos rfl] at hg
 rw [iR hg];rfl
theorem r5 {i:Nat} (h:f.blocks.length < i):toB (eZ f b k t still) i=[]:=qW (by rw [lU];omega)
theorem p7 (hb:f.blocks[b]? = some x) (hk:x.term.to[k]? = some (t:Int)) {a:Int} (ha:a ≠ f.blocks.length) {v:Nat} (h:Way (toB f) a v):Way (toB (eZ f b k t still)) a v:=by
 have hkk:(toB f b)[k]? = some t:=by rw [iR hb,aN,hk];rfl
 induction h with
 | zero h=>exact .zero h
 | @step c v hw hv hne ih =>
  have hc:c < f.blocks.length:=Classical.byContradiction fun h=>by rw [qW (by omega)] at hv;cases hv
  by_cases e:c=b
  ·subst e
   rcases nQ (n:=f.blocks.length) hv hkk with e | h
   ·subst e
    have h1:Way (toB (eZ f c k v still)) a f.blocks.length:=.step ih (by rw [iD hb];exact aG (i:=k) (by rw [bP,if_pos rfl,if_pos (aD.1 hkk).1])) (fun e=>ha e.symm)
    exact .step h1 (by rw [kT];simp) hne
   exact .step ih (by rw [iD hb];exact h) hne
  exact .step ih (by rw [lH hc e];exact hv) hne
theorem u7 (hf:gJ f=true) (hb:f.blocks[b]? = some x) (hk:x.term.to[k]? = some (t:Int)) (ht:t < f.blocks.length) {a:Int} {v:Nat} (h:Way (toB (eZ f b k t still)) a v):(v ≠ f.blocks.length -> Way (toB f) a v)/\(v=f.blocks.length -> Way (toB f) a b):=by
 have hkk:(toB f b)[k]? = some t:=by rw [iR hb,aN,hk];rfl
 have hbl:=(aD.1 hb).1
 induction h with
 | zero h=>exact ⟨fun _=>.zero h,fun e=>by omega⟩
 | @step c v hw hv hne ih =>
  by_cases hc:c=f.blocks.length
  ·subst hc
   rw [kT,cL] at hv
   subst hv
   exact ⟨fun _=>.step (ih.2 rfl) (aG hkk) hne,fun e=>by omega⟩
  have h1:=ih.1 hc
  by_cases hcl:c < f.blocks.length
  ·by_cases e:c=b
   ·subst e
    rw [iD hb] at hv
    refine ⟨fun hvn => ?_,fun _=>h1⟩
    rcases dL hv with hv | hv
    ·exact .step h1 hv hne
    exact absurd hv hvn
   rw [lH hcl e] at hv
   refine ⟨fun _=>.step h1 hv hne,fun e2 => ?_⟩
   subst e2
   have:=(aC6 hf hv).1
   omega
  rw [r5 (by omega)] at hv
  cases hv
theorem p8 (hf:gJ f=true) (hb:f.blocks[b]? = some x) (hk:x.term.to[k]? = some (t:Int)) (ht:t < f.blocks.length) {a v:Nat} (ha:a < f.blocks.length) (h:jP f a v):jP (eZ f b k t still) a v:=by
 obtain ⟨h1,h2,h3⟩:=h
 have h6:∀ u,Way (toB f) (-1) u -> u ≠ f.blocks.length:=fun u hu=>by
  cases hu with
  | zero _=>omega
  | step _ h5 _=>have:=(aC6 hf h5).1;omega
 exact ⟨p7 hb hk (by omega) h1,p7 hb hk (by omega) h2,fun h4=>h3 ((u7 hf hb hk ht h4).1 (h6 _ h2))⟩
theorem r6 (hf:gJ f=true) (hb:f.blocks[b]? = some x) (hk:x.term.to[k]? = some (t:Int)) (ht:t < f.blocks.length) {a:Nat} (ha:a < f.blocks.length) (h:jP f a b):jP (eZ f b k t still) a f.blocks.length:=by
 obtain ⟨h1,h2,h3⟩:=h
 have hkk:(toB f b)[k]? = some t:=by rw [iR hb,aN,hk];rfl
 exact ⟨p7 hb hk (by omega) h1,.step (p7 hb hk (by omega) h2) (by rw [iD hb];exact aG (i:=k) (by rw [bP,if_pos rfl,if_pos (aD.1 hkk).1])) (by omega),fun h4=>h3 ((u7 hf hb hk ht h4).2 rfl)⟩
theorem aG9 {c:Nat} {n:Int} (y:BlockD):entB c (jE b n still y)=entB c y:=by
 unfold entB jE phiN
 simp only [bI,cT,cX]
 congr 1
 rw [aJ (by simp),cX]
 apply dD
 intro p _
 simp [mN]
theorem aAF {c:Nat} (hc:c <= f.blocks.length):blkN (eZ f b k t still) c=blkN f c:=by
 induction c with
 | zero=>simp [blkN]
 | succ c ih =>
  obtain ⟨y,hy⟩ : ∃ y,f.blocks[c]? = some y:=⟨_,aC (by omega)⟩
  have hg:=iJ f b k t still c
  rw [if_pos (by omega),hy,cG] at hg
  rw [jA hy,jA hg,ih (by omega)]
  congr 1
  split
  ·rw [aG9];split <;> rfl
  split <;> rfl
theorem r7:entF (eZ f b k t still)=entF f:=by
 have hg:=iJ f b k t still f.blocks.length
 rw [if_neg (by omega),if_pos rfl] at hg
 unfold entF
 rw [lU,jA hg,aAF (aB _)]
 have:entB f.blocks.length (nH t)=[]:=rfl
 rw [this,cJ];rfl
theorem aAG {α β : Type}:∀ {vs:List α} {ss:List β} {i:Nat} {n : β} {p : α × β},p ∈ vs.zip (ss.set i n) -> p ∈ vs.zip ss \/ (p.2=n /\ ∃ s,ss[i]? = some s/\(p.1,s) ∈ vs.zip ss)
 | [],ss,i,n,p,h=>by simp at h
 | v :: vs,[],i,n,p,h=>by simp at h
 | v :: vs,s :: ss,0,n,p,h=>by
  rw [aE,List.zip_cons_cons,bN] at h
  rcases h with rfl | h
  ·exact .inr ⟨rfl,s,rfl,by simp⟩
  exact .inl (by simp [h])
 | v :: vs,s :: ss,i+1,n,p,h=>by
  rw [aF,List.zip_cons_cons,bN] at h
  rcases h with rfl | h
  ·exact .inl (by simp)
  rcases aAG h with h | ⟨h1,s',h2,h3⟩
  ·exact .inl (by rw [List.zip_cons_cons];exact bS _ h)
  exact .inr ⟨h1,s',by simpa using h2,by rw [List.zip_cons_cons];exact List.mem_cons_of_mem _ h3⟩
theorem aAH {i:Nat} {n:Int} {p:PhiD} (hl:p.src.length=p.vals.length) {u:UseD} (hu:u ∈ uxP i (fD b n still p)):u ∈ uxP i p \/ ∃ u0 ∈ uxP i p,u.id=u0.id/\u.blk=u0.blk/\u.pos = -1/\u0.pos = -1/\u.src=n/\u0.src=b:=by
 unfold fD at hu
 split at hu
 ·rename_i hb
  have hib:p.src.idxOf (b:Int) < p.src.length:=cM hb
  have hat:p.src[p.src.idxOf (b:Int)]? = some (b:Int):=by rw [aC hib,List.getElem_idxOf]
  split at hu
  ·unfold uxP at hu ⊢
   simp only at hu
   rw [List.zip_append hl.symm,bF,aK] at hu
   rcases hu with hu | hu
   ·exact .inl hu
   simp only [List.zip_cons_cons,List.zip_nil_left,cQ,eD,cL] at hu
   subst hu
   refine .inr ⟨⟨p.vals.getD (p.src.idxOf (b:Int)) 0,p.typ,i, -1,b⟩, ?_,rfl,rfl,rfl,rfl,rfl,rfl⟩
   rw [aZ]
   refine ⟨(p.vals.getD (p.src.idxOf (b:Int)) 0,(b:Int)), ?_,rfl⟩
   refine aG (i:=p.src.idxOf (b:Int)) ?_
   rw [dB]
   exact ⟨by rw [aH,aC (by omega)];rfl,hat⟩
  unfold uxP at hu ⊢
  simp only at hu
  rw [aZ] at hu
  obtain ⟨vs,hvs,rfl⟩:=hu
  rcases aAG hvs with h | ⟨h1,s,h2,h3⟩
  ·exact .inl (aZ.2 ⟨vs,h,rfl⟩)
  rw [hat] at h2
  cases h2
  exact .inr ⟨_,aZ.2 ⟨_,h3,rfl⟩,rfl,rfl,rfl,rfl,h1,rfl⟩
 exact .inl hu
theorem aAI (h:∀ y ∈ f.blocks, ∀ p ∈ y.phis,p.src.length=p.vals.length) {u:UseD} (hu:u ∈ uxF (eZ f b k t still)):u ∈ uxF f \/ ∃ u0 ∈ uxF f,u.id=u0.id/\u.blk=u0.blk/\u.pos = -1/\u0.pos = -1/\u.src=f.blocks.length/\u0.src=b:=by
 unfold uxF at hu ⊢
 rw [bK] at hu
 obtain ⟨⟨y',i⟩,hy',hu⟩:=hu
 rw [bR] at hy'
 simp only at hy'
 rw [iJ] at hy'
 split at hy'
 ·rename_i hi
  rw [dU] at hy'
  obtain ⟨y,hy,rfl⟩:=hy'
  have hin:∀ w ∈ uxB (y,i),w ∈ f.blocks.zipIdx.flatMap uxB:=fun w hw=>bK.2 ⟨(y,i),by rw [bR];exact hy,hw⟩
  have q5:(if i=b then fR k f.blocks.length y else y).phis=y.phis/\(if i=b then fR k f.blocks.length y else y).code=y.code/\(if i=b then fR k f.blocks.length y else y).term.op=y.term.op/\(if i=b then fR k f.blocks.length y else y).term.val=y.term.val:=by
   split
   ·exact ⟨rfl,rfl,rfl,rfl⟩
   exact ⟨rfl,rfl,rfl,rfl⟩
  obtain ⟨e1,e2,e5,e6⟩:=q5
  generalize (if i=b then fR k f.blocks.length y else y)=z at *
  have e3:∀ ps,uxT i ⟨ps,y.code,z.term⟩=uxT i y:=fun ps=>by unfold uxT;simp only;rw [e5,e6]
  have e4:uxT i z=uxT i y:=by unfold uxT;rw [e5,e6,e2]
  split at hu
  ·unfold uxB jE at hu
   simp only at hu
   rw [e2,e3,e1] at hu
   simp only [aK] at hu
   rcases hu with (hu | hu) | hu
   ·rw [bK] at hu
    obtain ⟨p',hp',hu⟩:=hu
    rw [aZ] at hp'
    obtain ⟨p,hp,rfl⟩:=hp'
    have hmem:∀ w ∈ uxP i p,w ∈ uxB (y,i):=fun w hw=>by
     unfold uxB
     simp only [aK]
     exact .inl (.inl (bK.2 ⟨p,hp,hw⟩))
    rcases aAH (h y (aG hy) p hp) hu with hu | ⟨u0,hu0,r⟩
    ·exact .inl (hin _ (hmem _ hu))
    exact .inr ⟨u0,hin _ (hmem _ hu0),r⟩
   ·exact .inl (hin _ (by unfold uxB;simp only [aK];exact .inl (.inr hu)))
   exact .inl (hin _ (by unfold uxB;simp only [aK];exact .inr hu))
  refine .inl (hin _ ?_)
  unfold uxB at hu ⊢
  simp only at hu ⊢
  rw [e1,e2,e4] at hu
  exact hu
 split at hy'
 ·cases hy'
  simp [uxB,nH,uxT] at hu
 cases hy'
theorem wP (hf:gJ f=true) (hb:f.blocks[b]? = some x) (hk:x.term.to[k]? = some (t:Int)) {d:Nat} (hd:d < f.blocks.length) (hdt:d ≠ t):fO (eZ f b k t still) (f.blocks.length+1) 0 d=fO f f.blocks.length 0 d:=by
 have hkk:(toB f b)[k]? = some t:=by rw [iR hb,aN,hk];rfl
 rw [fS,fS,eE,List.filter_append]
 have h1:(List.filter (fun c=>(toB (eZ f b k t still) c).contains d) [f.blocks.length])=[]:=by
  simp [kT,hdt]
 rw [h1,cJ]
 apply List.filter_congr
 intro c hc
 rw [cN] at hc
 by_cases e:c=b
 ·subst e
  rw [iD hb,bZ,cP,cP]
  constructor
  ·intro h
   rcases dL h with h | h
   ·exact h
   omega
  intro h
  rcases nQ (n:=f.blocks.length) h hkk with e2 | h
  ·exact absurd e2 hdt
  exact h
 rw [lH hc e]
theorem r8 (hb:f.blocks[b]? = some x) (hk:x.term.to[k]? = some (t:Int)) (ht:t < f.blocks.length) (hs:still=((toB f b).set k f.blocks.length).contains t) :
  fO (eZ f b k t still) (f.blocks.length+1) 0 t=(if still then fO f f.blocks.length 0 t else (fO f f.blocks.length 0 t).filter (fun c=>c != b)) ++ [f.blocks.length]:=by
 have hkk:(toB f b)[k]? = some t:=by rw [iR hb,aN,hk];rfl
 rw [fS,fS,eE,List.filter_append]
 have h1:(List.filter (fun c=>(toB (eZ f b k t still) c).contains t) [f.blocks.length])=[f.blocks.length]:=by
  simp [kT]
 rw [h1]
 congr 1
 cases hst:still
 ·rw [if_neg (by simp),List.filter_filter]
  apply List.filter_congr
  intro c hc
  rw [cN] at hc
  by_cases e:c=b
  ·subst e
   rw [iD hb]
   simp only [bne_self_eq_false,Bool.false_and]
   rw [<-hs,hst]
  rw [lH hc e]
  simp [e]
 ·rw [if_pos rfl]
  apply List.filter_congr
  intro c hc
  rw [cN] at hc
  by_cases e:c=b
  ·subst e
   rw [iD hb, <-hs,hst]
   have:t ∈ toB f c:=aG hkk
   simp [this]
  rw [lH hc e]
theorem wQ (hb:f.blocks[b]? = some x) (hk:x.term.to[k]? = some (t:Int)) (hs:still=((toB f b).set k f.blocks.length).contains t) {p:PhiD} (h:fN (natI (fO f f.blocks.length 0 t)) p=true) :
  fN (natI ((if still then fO f f.blocks.length 0 t else (fO f f.blocks.length 0 t).filter (fun c=>c != b)) ++ [f.blocks.length])) (fD b f.blocks.length still p)=true:=by
 have hkk:(toB f b)[k]? = some t:=by rw [iR hb,aN,hk];rfl
 have hbl:=(aD.1 hb).1
 have hin:b ∈ fO f f.blocks.length 0 t:=by
  rw [fS,eR,cN]
  exact ⟨hbl,by have:t ∈ toB f b:=List.mem_of_getElem? hkk;simpa using this⟩
 have hnd:(fO f f.blocks.length 0 t).Nodup:=by rw [fS];exact List.nodup_range.filter _
 unfold fN at h ⊢
 simp only [aI,decide_eq_true_eq,aU,natI,bI,aZ,cP] at h ⊢
 obtain ⟨h1,h2⟩:=h
 have hsb:(b:Int) ∈ p.src:=h2 _ ⟨b,hin,rfl⟩
 have hib:p.src.idxOf (b:Int) < p.src.length:=cM hsb
 have hat:p.src[p.src.idxOf (b:Int)]? = some (b:Int):=by rw [aC hib,List.getElem_idxOf]
 unfold fD
 rw [if_pos hsb]
 cases still
 ·simp only [bE,if_false,bT,aM,dE]
  constructor
  ·have h3:(fO f f.blocks.length 0 t).filter (fun c=>c != b)=(fO f f.blocks.length 0 t).erase b:=(List.Nodup.erase_eq_filter hnd b).symm
   rw [h3,List.length_erase_of_mem hin]
   have:=List.length_pos_of_mem hin
   omega
  rintro _ ⟨c,hc,rfl⟩
  rw [aK] at hc
  rcases hc with hc | hc
  ·rw [eR] at hc
   rcases nQ (n:=(f.blocks.length:Int)) (h2 _ ⟨c,hc.1,rfl⟩) hat with e | h
   ·have:=hc.2;simp at this;omega
   exact h
  rw [cL] at hc
  subst hc
  exact aG (i:=p.src.idxOf (b:Int)) (by rw [bP,if_pos rfl,if_pos hib])
 ·simp only [if_true,aM,dE]
  refine ⟨by omega, ?_⟩
  rintro _ ⟨c,hc,rfl⟩
  rw [aK] at hc ⊢
  rcases hc with hc | hc
  ·exact .inl (h2 _ ⟨c,hc,rfl⟩)
  rw [cL] at hc
  subst hc
  exact .inr (by simp)
theorem aC7 (hf:gJ f=true) (hb:f.blocks[b]? = some x) (hk:x.term.to[k]? = some (t:Int)) (ht:t < f.blocks.length) (hn:1 <= f.blocks.length) {u:UseD} (h:gL f u):gL (eZ f b k t still) u:=by
 obtain ⟨d,q,h1,h2⟩:=h
 obtain ⟨r1,r2⟩:=oT hn (dM h1)
 simp only at r1 r2
 refine ⟨d,q,by rw [r7];exact h1, ?_⟩
 rcases h2 with ⟨h2,h3⟩ | ⟨h2,h3⟩
 ·exact .inl ⟨h2,p8 hf hb hk ht (by omega) h3⟩
 refine .inr ⟨h2, ?_⟩
 rcases h3 with h3 | ⟨h3,h4⟩
 ·exact .inl h3
 exact .inr ⟨h3,p8 hf hb hk ht (by omega) h4⟩
theorem r9 (hc:d7 f=0) (h:fM f 0 0) (hb:f.blocks[b]? = some x) (hk:x.term.to[k]? = some (t:Int)) (hs:still=((toB f b).set k f.blocks.length).contains t):fM (eZ f b k t still) 0 0:=by
 have hf:=(eX hc).1
 have hbl:=(aD.1 hb).1
 have hkk:(toB f b)[k]? = some t:=by rw [iR hb,aN,hk];rfl
 have ht:=(aC6 hf (aG hkk)).1
 obtain ⟨h1,h2,h3⟩:=qV.1 h
 rw [qV,lU]
 refine ⟨fun d hd => ?_,fun d y' hy' => ?_,fun u hu => ?_⟩
 ·by_cases e:d=f.blocks.length
  ·subst e
   exact .step (p7 hb hk (by omega) (h1 b hbl)) (by rw [iD hb];exact aG (i:=k) (by rw [bP,if_pos rfl,if_pos (aD.1 hkk).1])) (by omega)
  exact p7 hb hk (by omega) (h1 d (by omega))
 ·rw [iJ] at hy'
  split at hy'
  ·rename_i hd
   rw [dU] at hy'
   obtain ⟨y,hy,rfl⟩:=hy'
   have h4:=h2 d y hy
   have e1:(if d=b then fR k f.blocks.length y else y).phis=y.phis:=by split <;> rfl
   generalize (if d=b then fR k f.blocks.length y else y)=z at *
   split
   ·rename_i e
    subst e
    rw [r8 hb hk ht hs]
    unfold jE
    rw [aU] at h4 ⊢
    intro p' hp'
    simp only [aZ] at hp'
    obtain ⟨p,hp,rfl⟩:=hp'
    exact wQ hb hk hs (h4 p (by rw [<-e1];exact hp))
   rename_i e
   rw [wP hf hb hk hd e,e1]
   exact h4
  split at hy'
  ·cases hy';rfl
  cases hy'
 have hn:1 <= f.blocks.length:=by omega
 rcases aAI (fun y hy p hp=>(jC hf).phi y hy p hp |>.1) hu with hu | ⟨u0,hu0,e1,e2,e3,e4,e5,e6⟩
 ·exact aC7 hf hb hk ht hn (h3 u hu)
 obtain ⟨d,q,g1,g2⟩:=h3 u0 hu0
 obtain ⟨r1,r2⟩:=oT hn (dM g1)
 simp only at r1 r2
 rcases g2 with ⟨-,g3⟩ | ⟨g2, -⟩
 ·rw [e6] at g3
  refine ⟨d,q,by rw [r7,e1];exact g1,.inl ⟨by omega, ?_⟩⟩
  rw [e5]
  exact r6 hf hb hk ht (by omega) g3
 omega
end
theorem aC8 {f:FuncD} {t p:Nat} (hp:p < f.blocks.length) (h:t ∈ toB f p):p ∈ fO f f.blocks.length 0 t:=by
 rw [fS,eR]
 exact ⟨cN.2 hp,cP.2 h⟩
def In (f:FuncD) (src:Int) (a:Nat):Prop:=(src = -1/\a=0) \/ ∃ b:Nat,src=b/\b < f.blocks.length/\a ∈ toB f b
theorem In.phis {f:FuncD} (hc:d7 f=0) (hF:fM f 0 0) {src:Int} {a:Nat} (h:In f src a) {x:BlockD} (hx:f.blocks[a]? = some x):∀ p ∈ x.phis,src ∈ p.src:=fun p hp=>by
 rcases h with ⟨rfl,rfl⟩ | ⟨b,rfl,hb,ha⟩
 ·have h1:=(fX.1 ((iM.1 hc).2.2.1 0 x hx)).1 rfl
  rw [h1] at hp;cases hp
 have h1:=(qV.1 hF).2.1 a x hx
 rw [aU] at h1
 have h2:=h1 p hp
 unfold fN at h2
 simp only [aI,aU] at h2
 have h3:=h2.2 (b:Int) (by unfold natI;exact aZ.2 ⟨b,aC8 hb ha,rfl⟩)
 exact cP.1 h3
theorem In.lt {f:FuncD} (hc:d7 f=0) {src:Int} {a:Nat} (h:In f src a):a < f.blocks.length:=by
 rcases h with ⟨rfl,rfl⟩ | ⟨b,rfl,hb,ha⟩
 ·exact (gU (eX hc).1).1
 exact (aC6 (eX hc).1 ha).1
theorem aE9 {fuel:Nat} {x:InstrD} {s:RunS} (h:¬ s.steps=fuel):oneS fuel x s=(fE x { s with steps:=s.steps+1 }).bind fun v s2=>.go () (putS x v s2):=by
 unfold oneS gK
 rw [if_neg h];rfl
theorem aAJ {fuel:Nat} {x:InstrD} {s:RunS} (h:s.steps=fuel):oneS fuel x s = .over ⟨3,0,0⟩ s:=by
 unfold oneS gK
 rw [if_pos h];rfl
theorem aAK {fuel:Nat} {x:InstrD} {s:RunS}:(oneS fuel x s).st.visits=s.visits/\s.steps <= (oneS fuel x s).st.steps/\(oneS fuel x s).st.steps <= s.steps+1/\((∃ s1,oneS fuel x s = .go () s1) -> (oneS fuel x s).st.steps=s.steps+1):=by
 by_cases h:s.steps=fuel
 ·rw [aAJ h]
  exact ⟨rfl,aB _,by show s.steps <= _;omega,fun ⟨_,h⟩=>by cases h⟩
 rw [aE9 h]
 have ha:=oN x { s with steps:=s.steps+1 }
 cases hi:fE x { s with steps:=s.steps+1 } with
 | over o s2 =>
  rw [hi] at ha
  have h1:s2.steps=s.steps+1:=ha.stp
  refine ⟨ha.vis, ?_, ?_,fun _=>h1⟩
  ·show s.steps <= s2.steps;omega
  show s2.steps <= s.steps+1;omega
 | go v s2 =>
  rw [hi] at ha
  have h1:(putS x v s2).visits=s2.visits/\(putS x v s2).steps=s2.steps:=by unfold putS;split <;> exact ⟨rfl,rfl⟩
  have h2:s2.steps=s.steps+1:=ha.stp
  refine ⟨h1.1.trans ha.vis, ?_, ?_,fun _=>h1.2.trans h2⟩
  ·show s.steps <= (putS x v s2).steps;omega
  show (putS x v s2).steps <= s.steps+1;omega
theorem p9 {fuel:Nat}:∀ {xs:List InstrD} {s:RunS},(gW fuel xs s).st.visits=s.visits/\s.steps <= (gW fuel xs s).st.steps/\(gW fuel xs s).st.steps <= s.steps+xs.length/\((∃ s1,gW fuel xs s = .go () s1) -> (gW fuel xs s).st.steps=s.steps+xs.length)
 | [],s=>⟨rfl,aB _,by show s.steps <= _;simp,fun _=>rfl⟩
 | x :: xs,s=>by
  obtain ⟨h1,h2,h3,h4⟩:=aAK (fuel:=fuel) (x:=x) (s:=s)
  unfold gW
  cases ho:oneS fuel x s with
  | over o s2 =>
   rw [ho] at h1 h2 h3
   refine ⟨h1,h2, ?_,fun ⟨_,h⟩=>by cases h⟩
   show s2.steps <= _
   simp only [Res.st] at h3
   rw [bB];omega
  | go u s2 =>
   rw [ho] at h1 h2 h3 h4
   obtain ⟨k1,k2,k3,k4⟩:=p9 (fuel:=fuel) (xs:=xs) (s:=s2)
   have h5:=h4 ⟨s2,rfl⟩
   simp only [Res.st] at h1 h2 h3 h5
   show (gW fuel xs s2).st.visits=_/\s.steps <= (gW fuel xs s2).st.steps/\(gW fuel xs s2).st.steps <= _/\((∃ s1,gW fuel xs s2 = .go () s1) -> (gW fuel xs s2).st.steps=_)
   rw [bB]
   exact ⟨k1.trans h1,by omega,by omega,fun h=>by have:=k4 h;omega⟩
structure Gone (f:FuncD) (fuel:Nat) (a:Nat) (x:BlockD) (s s2:RunS) (to:Int):Prop where
 good:GoodS f fuel s2
 steps:s2.steps=s.steps+x.code.length+1
 visits:s2.visits=s.visits.modify a (· + 1)
 to:∃ t:Nat,to=t/\t ∈ toB f a
theorem u8 {f:FuncD} {fuel:Nat} {src to:Int} {a:Nat} {s s2:RunS} {x:BlockD} (hc:d7 f=0) (hG:GoodS f fuel s) (hx:f.blocks[a]? = some x) (hs:∀ p ∈ x.phis,src ∈ p.src) (h:fY f fuel src a s = .go to s2):Gone f fuel a x s s2 to:=by
 have hxm:=aG hx
 have hal:=(aD.1 hx).1
 unfold fY at h
 rw [getD_some hx] at h
 have g1:=(hG.visit a).phis hc hx hs
 have hp:(kO x src (f6 a s)).steps=s.steps/\(kO x src (f6 a s)).visits=s.visits.modify a (· + 1):=by
  unfold kO
  rw [wE]
  exact ⟨rfl,rfl⟩
 cases hcd:gW fuel x.code (kO x src (f6 a s)) with
 | over o s3=>rw [hcd] at h;cases h
 | go u s3 =>
  rw [hcd] at h
  obtain ⟨k1, -, -,k4⟩:=p9 (fuel:=fuel) (xs:=x.code) (s:=kO x src (f6 a s))
  rw [hcd] at k1 k4
  have k5:=k4 ⟨s3,rfl⟩
  simp only [Res.st] at k1 k5
  have g3:=g1.code hc hxm (fun y hy=>hy) hcd
  change (gK fuel s3).bind (fun _ s2=>endR x.term s2)=_ at h
  cases hst:gK fuel s3 with
  | over o s4=>rw [hst] at h;cases h
  | go u s4 =>
   rw [hst] at h
   obtain ⟨e4,g4, -⟩:=g3.step hst
   change endR x.term s4=_ at h
   have hend:s2=s4 /\ ∃ k:Nat,k < x.term.to.length/\to=x.term.to.getD k 0:=by
    have hk:=(fX.1 ((iM.1 hc).2.2.1 a x hx)).2.2.2
    unfold gH at hk
    simp only [aI,bU,beq_iff_eq] at hk
    unfold endR at h
    split at h
    ·cases h
    split at h
    ·cases h
    split at h
    ·rename_i h2
     injection h with h h'
     refine ⟨h'.symm,_, ?_,h.symm⟩
     have hl:x.term.to.length=2:=by
      rcases hk.2 with ((h8 | h8) | h8) | h8
      ·have:=h8.1.1.1;omega
      ·exact h8.1.2
      ·have:=h8.1.1;omega
      have:=h8.1.1.1;omega
     have hfl:=g4.flag _ (qT hc (pZ hxm h2) (by simp))
     simp only at hfl
     rcases hfl with h9 | h9 <;> rw [h9,hl] <;> decide
    rename_i n3 n4 n2
    injection h with h h'
    refine ⟨h'.symm,0, ?_,h.symm⟩
    rcases hk.2 with ((h8 | h8) | h8) | h8
    ·rw [h8.1.1.2];omega
    ·exact absurd h8.1.1 n2
    ·exact absurd h8.1.1 n3
    exact absurd h8.1.1.1 n4
   obtain ⟨e2,k,hkl,hto⟩:=hend
   subst e2
   refine ⟨g4, ?_, ?_, ?_⟩
   ·rw [e4];show s3.steps+1=_;omega
   ·rw [e4];show s3.visits=_;rw [k1,hp.2]
   have hq:x.term.to[k]? = some to:=by rw [hto,aH,aC hkl];rfl
   have h1:=kX (eX hc).1 hx to (aG hq)
   refine ⟨to.toNat,by omega, ?_⟩
   rw [iR hx,aZ]
   exact ⟨to,aG hq,rfl⟩
end Go.Proofs.YtgmhnepmkaonaaaGreat
