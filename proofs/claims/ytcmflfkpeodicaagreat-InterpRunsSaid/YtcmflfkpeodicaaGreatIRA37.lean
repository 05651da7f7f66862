/- Part 37. -/
import Derived.Test.YtcmflfkpeodicaaGreatIRA31
namespace Go.Proofs.YtcmflfkpeodicaaGreat
set_option linter.all false
open Go.RowKit
structure GoodS (f:FuncD) (fuel:Nat) (s:RunS):Prop where
 al:s.arrays.length=f.arrays.toNat
 cl:s.cells.length=f.cells.toNat
 len:∀ a ∈ s.arrays,a.length <= 4096
 out:s.out.length <= 4096
 chk:s.checks <= s.steps
 stp:s.steps <= fuel
 vis:s.visits.length=f.blocks.length
 flag:∀ id,tyOf (eR f) id=some 2 -> s.vals id=0 \/ s.vals id=1
theorem GoodS.run {f:FuncD} {fuel:Nat} {s:RunS} (h:GoodS f fuel s) (hf:fuel <= 200000):RunOk f.arrays f.cells s:=⟨h.al,h.cl,h.len,h.out,by have:=h.chk;have:=h.stp;omega⟩
theorem GoodS.step {f:FuncD} {fuel:Nat} {s s1:RunS} (h:GoodS f fuel s) (hs:iL fuel s = .go () s1):s1 = { s with steps:=s.steps+1 } /\ GoodS f fuel s1/\s1.checks+1 <= s1.steps:=by
 unfold iL at hs
 split at hs
 ·cases hs
 rename_i hne
 injection hs with _ hs
 subst hs
 have:=h.stp
 have:=h.chk
 exact ⟨rfl,⟨h.al,h.cl,h.len,h.out,by show s.checks <= s.steps+1;omega,by show s.steps+1 <= fuel;omega,h.vis,h.flag⟩,by show s.checks+1 <= s.steps+1;omega⟩
theorem kN (b:Bool):iT b=0 \/ iT b=1:=by cases b <;> simp [iT]
theorem aAA {op:Int} {a:List Int} (h:op=13 \/ op=14 \/ op=15 \/ op=16):lK op a=0 \/ lK op a=1:=by
 unfold lK
 split
 ·exact .inl rfl
 split
 ·exact kN _
 rw [if_neg (by omega),if_neg (by omega)]
 unfold fH
 rw [if_neg (by omega),if_neg (by omega),if_neg (by omega),if_neg (by omega),if_neg (by omega),if_neg (by omega),if_neg (by omega),if_neg (by omega),if_neg (by omega),if_neg (by omega)]
 split
 ·exact kN _
 split
 ·exact kN _
 exact kN _
theorem aEL {op:Int} (h:(shp0 op).result=2):op=2 \/ op=13 \/ op=14 \/ op=15 \/ op=16:=by
 refine Classical.byContradiction fun hn => ?_
 have hs:(shp op).isSome=true:=by
  cases hs:shp op with
  | none=>unfold shp0 at h;rw [hs] at h;simp at h
  | some _=>rfl
 have key:∀ (op:Int),(3 <= op/\op <= 12) \/ op=17 -> (shp0 op).result=1:=fun op h=>by
  unfold shp0 shp
  rcases h with h | rfl
  ·rw [if_neg (by omega),if_neg (by omega),if_neg (by omega),if_neg (by omega),if_neg (by omega),if_neg (by omega),if_neg (by omega),if_neg (by omega),if_neg (by omega),if_neg (by omega),if_neg (by omega),if_pos h];rfl
  rfl
 rcases qR hs with rfl | rfl | rfl | rfl | rfl | rfl | rfl | rfl | rfl | rfl | h9
 ·revert h;decide
 ·omega
 ·revert h;decide
 ·revert h;decide
 ·revert h;decide
 ·revert h;decide
 ·revert h;decide
 ·revert h;decide
 ·revert h;decide
 ·revert h;decide
 have:=key op (by omega)
 omega
theorem aAB {ar ce:Int} {x:InstrD} {s s1:RunS} {v:Int} (hx:InsOk ar ce x) (h2:(shp0 x.op).result=2) (h:fA x s = .go v s1):v=0 \/ v=1:=by
 obtain ⟨op,id,args,n⟩:=x
 simp only at h2
 rcases aEL h2 with rfl | h9
 ·have hn:=hx.n
  unfold fA at h
  simp at h
  rw [<-h.1]
  unfold nOk topN at hn
  simp [shp0,shp] at hn
  omega
 rw [nJ (by omega)] at h
 split at h
 ·cases h
 injection h with h _
 rw [<-h]
 exact aAA h9
theorem rR (op:Int) (s:RunS):(fY op s).cells=s.cells/\(fY op s).out=s.out/\(fY op s).steps=s.steps/\(fY op s).visits=s.visits/\(fY op s).vals=s.vals/\(fY op s).checks <= s.checks+1:=by
 unfold fY
 split
 ·exact ⟨rfl,rfl,rfl,rfl,rfl,aF _⟩
 exact ⟨rfl,rfl,rfl,rfl,rfl,by omega⟩
theorem pU (op n i:Int) (s:RunS):mK op n i s = .over (aA5 op) (fY op s) \/ mK op n i s = .go () (fY op s):=by
 unfold mK
 split
 ·exact .inl rfl
 exact .inr rfl
structure After (s s1:RunS):Prop where
 al:s1.arrays.length=s.arrays.length
 cl:s1.cells.length=s.cells.length
 len:(∀ a ∈ s.arrays,a.length <= 4096) -> ∀ a ∈ s1.arrays,a.length <= 4096
 out:s.out.length <= 4096 -> s1.out.length <= 4096
 chk:s1.checks <= s.checks+1
 stp:s1.steps=s.steps
 vis:s1.visits=s.visits
 vals:s1.vals=s.vals
theorem After.refl (s:RunS):After s s:=⟨rfl,rfl,fun h=>h,fun h=>h,by omega,rfl,rfl,rfl⟩
theorem After.look (op:Int) (s:RunS):After s (fY op s):=by
 obtain ⟨h1,h2,h3,h4,h5,h6⟩:=rR op s
 exact ⟨by rw [eT],by rw [h1],by rw [eT];exact fun h=>h,by rw [h2];exact fun h=>h,h6,h3,h4,h5⟩
theorem oL (x:InstrD) (s:RunS):After s (fA x s).st:=by
 unfold fA
 split
 ·exact After.refl s
 split
 ·exact After.refl s
 split
 ·rcases pU x.op x.n ((x.args.map s.vals).getD 0 0) s with h | h
  ·rw [h];exact After.look _ s
  rw [h];exact After.look _ s
 split
 ·rcases pU x.op x.n ((x.args.map s.vals).getD 0 0) s with h | h
  ·rw [h];exact After.look _ s
  rw [h]
  obtain ⟨h1,h2,h3,h4,h5,h6⟩:=rR x.op s
  refine ⟨?_,by show (fY x.op s).cells.length=_;rw [h1], ?_, ?_,h6,h3,h4,h5⟩
  ·show ((fY x.op s).arrays.modify _ _).length=_
   rw [List.length_modify,eT]
  ·intro hl a ha
   change a ∈ (fY x.op s).arrays.modify _ _ at ha
   rw [eT] at ha
   obtain ⟨i,hi⟩:=bP ha
   rw [eC] at hi
   cases hq:s.arrays[i]? with
   | none=>rw [hq] at hi;simp at hi
   | some b =>
    rw [hq] at hi
    have:=hl b (aG hq)
    simp at hi
    rw [<-hi]
    split
    ·rw [bY];exact this
    exact this
  show s.out.length <= 4096 -> (fY x.op s).out.length <= 4096
  rw [h2];exact fun h=>h
 split
 ·split
  ·exact After.refl s
  rename_i hne
  refine ⟨rfl,rfl,fun h=>h,fun h => ?_,by show s.checks <= s.checks+1;omega,rfl,rfl,rfl⟩
  show (s.out ++ [_]).length <= 4096
  rw [aQ,dL]
  omega
 split
 ·exact After.refl s
 split
 ·exact ⟨rfl,by show (s.cells.set _ _).length=_;rw [bY],fun h=>h,fun h=>h,by show s.checks <= s.checks+1;omega,rfl,rfl,rfl⟩
 split
 ·exact After.refl s
 exact After.refl s
theorem mG {T:List (Int × Int)} (hn:(T.map (·.1)).Nodup) {id t:Int} (h:(id,t) ∈ T):tyOf T id=some t:=by
 cases ht:tyOf T id with
 | none=>exact absurd (aY.2 ⟨_,h,rfl⟩) (jS.1 ht)
 | some u =>
  have h2:=qU ht
  obtain ⟨i,hi⟩:=bP h
  obtain ⟨j,hj⟩:=bP h2
  have h3:(T.map (·.1))[i]? = some id:=by rw [aU,hi];rfl
  have h4:(T.map (·.1))[j]? = some id:=by rw [aU,hj];rfl
  obtain ⟨h5,h6⟩:=aE.1 h3
  obtain ⟨h7,h8⟩:=aE.1 h4
  have:i=j:=(List.getElem_inj hn).1 (by rw [h6,h8])
  rw [this,hj] at hi
  injection hi with hi
  injection hi with _ hi
  rw [hi]
theorem nH {f:FuncD} (hc:eL f=0):((eR f).map (·.1)).Nodup:=nM (eS hc).2
theorem rS {f:FuncD} (hc:eL f=0) {b:BlockD} (hb:b ∈ f.blocks) {x:InstrD} (hx:x ∈ b.code) (hid:0 <= x.id):tyOf (eR f) x.id=some (shp0 x.op).result:=by
 refine mG (nH hc) ?_
 unfold eR oU
 rw [aO,bK]
 right
 refine ⟨b,hb, ?_⟩
 unfold iS
 rw [aO]
 right
 exact List.mem_map.2 ⟨x,List.mem_filter.2 ⟨hx,by have:=(uS hc b hb x hx).1 hid;simpa using this⟩,rfl⟩
theorem uY {f:FuncD} (hc:eL f=0) {b:BlockD} (hb:b ∈ f.blocks) {p:PhiD} (hp:p ∈ b.phis):tyOf (eR f) p.id=some p.typ:=by
 refine mG (nH hc) ?_
 unfold eR oU
 rw [aO,bK]
 right
 refine ⟨b,hb, ?_⟩
 unfold iS
 rw [aO,aY]
 left
 exact ⟨p,hp,rfl⟩
theorem uZ {f:FuncD} (hc:eL f=0) {b:BlockD} (hb:b ∈ f.blocks) {x:InstrD} (hx:x ∈ b.code):InsOk f.arrays f.cells x:=by
 obtain ⟨i,hi⟩:=bP hb
 have h1:=(iU.1 ((gW.1 hc).2.2.1 i b hi)).2.2.1
 rw [aZ] at h1
 have h2:=h1 x hx
 unfold fQ at h2
 simp only [aN,beq_iff_eq] at h2
 exact ⟨h2.1.1.1,h2.1.1.2,h2.1.2⟩
theorem GoodS.put {f:FuncD} {fuel:Nat} {s:RunS} (hc:eL f=0) (h:GoodS f fuel s) {b:BlockD} (hb:b ∈ f.blocks) {x:InstrD} (hx:x ∈ b.code) {v:Int} (hv:(shp0 x.op).result=2 -> v=0 \/ v=1):GoodS f fuel (putS x v s):=by
 unfold putS
 split
 ·rename_i hid
  refine ⟨h.al,h.cl,h.len,h.out,h.chk,h.stp,h.vis,fun id ht => ?_⟩
  show (if id=x.id then v else s.vals id)=0 \/ (if id=x.id then v else s.vals id)=1
  by_cases e:id=x.id
  ·rw [if_pos e]
   rw [e,rS hc hb hx hid] at ht
   injection ht with ht
   exact hv ht
  rw [if_neg e];exact h.flag id ht
 exact h
theorem GoodS.after {f:FuncD} {fuel:Nat} {s s1:RunS} (h:GoodS f fuel s) (hc:s.checks+1 <= s.steps) (ha:After s s1):GoodS f fuel s1 :=
 ⟨ha.al.trans h.al,ha.cl.trans h.cl,ha.len h.len,ha.out h.out,by have:=ha.chk;have:=ha.stp;omega,by have:=ha.stp;have:=h.stp;omega,by rw [ha.vis];exact h.vis,by rw [ha.vals];exact h.flag⟩
theorem GoodS.one {f:FuncD} {fuel:Nat} {s s1:RunS} (hc:eL f=0) (h:GoodS f fuel s) {b:BlockD} (hb:b ∈ f.blocks) {x:InstrD} (hx:x ∈ b.code) (hs:oneS fuel x s = .go () s1):GoodS f fuel s1:=by
 unfold oneS at hs
 cases h1:iL fuel s with
 | over o s2=>rw [h1] at hs;cases hs
 | go u s2 =>
  rw [h1] at hs
  change (fA x s2).bind (fun v s2=>.go () (putS x v s2))=_ at hs
  obtain ⟨-,g2,c2⟩:=h.step h1
  cases h3:fA x s2 with
  | over o s3=>rw [h3] at hs;cases hs
  | go v s3 =>
   rw [h3] at hs
   change Res.go () (putS x v s3)=_ at hs
   injection hs with _ hs
   rw [<-hs]
   have ha:=oL x s2
   rw [h3] at ha
   exact (g2.after c2 ha).put hc hb hx (fun h2=>aAB (uZ hc hb hx) h2 h3)
theorem GoodS.code {f:FuncD} {fuel:Nat} (hc:eL f=0) {b:BlockD} (hb:b ∈ f.blocks):∀ {xs:List InstrD} {s s1:RunS},(∀ x ∈ xs,x ∈ b.code) -> GoodS f fuel s -> gQ fuel xs s = .go () s1 -> GoodS f fuel s1
 | [],s,s1,_,h,hs=>by injection hs with _ hs;rw [<-hs];exact h
 | x :: xs,s,s1,hx,h,hs=>by
  unfold gQ at hs
  cases h1:oneS fuel x s with
  | over o s2=>rw [h1] at hs;cases hs
  | go u s2 =>
   rw [h1] at hs
   exact GoodS.code hc hb (fun y hy=>hx y (cL _ hy)) (h.one hc hb (hx x (by simp)) h1) hs
theorem nZ {f:FuncD} (hc:eL f=0) {u:Int × Int} (hu:u ∈ jD f) (h2:u.2 ≠ 0):tyOf (eR f) u.1=some u.2:=by
 unfold jD at hu
 rw [bK] at hu
 obtain ⟨x,hx,hu⟩:=hu
 obtain ⟨h1,h3⟩:=(gW.1 hc).2.2.2.2 x hx u hu
 cases ht:tyOf (eR f) u.1 with
 | none=>rw [ht] at h1;simp at h1
 | some t =>
  unfold kX at h3
  rw [ht] at h3
  simp only [Bool.and_eq_false_iff,bne_eq_false_iff_eq] at h3
  rcases h3 with h3 | h3
  ·exact absurd h3 h2
  rw [h3]
theorem aAC {f:FuncD} {b:BlockD} (hb:b ∈ f.blocks) {p:PhiD} (hp:p ∈ b.phis) {v:Int} (hv:v ∈ p.vals):(v,p.typ) ∈ jD f:=by
 unfold jD
 rw [bK]
 refine ⟨b,hb, ?_⟩
 unfold mZ
 rw [aO,aO]
 left;left
 rw [bK]
 refine ⟨p,hp, ?_⟩
 unfold nW
 exact aY.2 ⟨v,hv,rfl⟩
theorem lU {f:FuncD} {b:BlockD} (hb:b ∈ f.blocks) (h:b.term.op=2):(b.term.val,2) ∈ jD f:=by
 unfold jD
 rw [bK]
 refine ⟨b,hb, ?_⟩
 unfold mZ oX
 rw [aO,if_pos h]
 right
 simp
theorem aAD {f:FuncD} (hc:eL f=0) {d:Nat} {b:BlockD} (hb:f.blocks[d]? = some b) {p:PhiD} (hp:p ∈ b.phis) {src:Int} (hs:src ∈ p.src):p.src.idxOf src < p.vals.length/\p.vals.getD (p.src.idxOf src) 0 ∈ p.vals:=by
 have hl:=((kF (eS hc).1).phi b (aG hb) p hp).1
 have h1:=cY hs
 refine ⟨by omega, ?_⟩
 rw [aH,aB (by omega),dA]
 exact dJ _
theorem xD (pv:List (PhiD × Int)):∀ s:RunS,mC s pv = { s with vals:=(mC s pv).vals }:=by
 induction pv with
 | nil=>intro s;rfl
 | cons q pv ih =>
  intro s
  have h:=ih (setV s q.1.id q.2)
  show mC (setV s q.1.id q.2) pv=_
  rw [h]
  rfl
theorem pV (s:RunS) (pv:List (PhiD × Int)) (q:PhiD × Int):mC s (pv ++ [q])=setV (mC s pv) q.1.id q.2:=by
 unfold mC
 rw [List.foldl_append];rfl
theorem GoodS.puts {f:FuncD} {fuel:Nat} (hc:eL f=0) {b:BlockD} (hb:b ∈ f.blocks):∀ {pv:List (PhiD × Int)} {s:RunS},(∀ q ∈ pv,q.1 ∈ b.phis/\(q.1.typ=2 -> q.2=0 \/ q.2=1)) -> GoodS f fuel s -> GoodS f fuel (mC s pv)
 | [],s,_,h=>h
 | q :: pv,s,hq,h=>by
  refine GoodS.puts hc hb (pv:=pv) (s:=setV s q.1.id q.2) (fun r hr=>hq r (cL _ hr)) ?_
  obtain ⟨h1,h2⟩:=hq q (by simp)
  refine ⟨h.al,h.cl,h.len,h.out,h.chk,h.stp,h.vis,fun id ht => ?_⟩
  show (if id=q.1.id then q.2 else s.vals id)=0 \/ (if id=q.1.id then q.2 else s.vals id)=1
  by_cases e:id=q.1.id
  ·rw [if_pos e]
   rw [e,uY hc hb h1] at ht
   injection ht with ht
   exact h2 ht
  rw [if_neg e];exact h.flag id ht
theorem GoodS.phis {f:FuncD} {fuel:Nat} {s:RunS} (hc:eL f=0) (h:GoodS f fuel s) {d:Nat} {b:BlockD} (hb:f.blocks[d]? = some b) {src:Int} (hs:∀ p ∈ b.phis,src ∈ p.src):GoodS f fuel (nC b src s):=by
 have hbm:=aG hb
 unfold nC
 refine GoodS.puts hc hbm (fun q hq => ?_) h
 rw [aY] at hq
 obtain ⟨p,hp,rfl⟩:=hq
 refine ⟨hp,fun ht => ?_⟩
 obtain ⟨-,hv⟩:=aAD hc hb hp (hs p hp)
 unfold phiV
 have hu:=nZ hc (aAC hbm hp hv) (by show p.typ ≠ 0;simp only at ht;omega)
 simp only at ht hu
 rw [ht] at hu
 exact h.flag _ hu
theorem GoodS.visit {f:FuncD} {fuel:Nat} {s:RunS} (h:GoodS f fuel s) (d:Nat):GoodS f fuel (kD d s) :=
 ⟨h.al,h.cl,h.len,h.out,h.chk,h.stp,by show (s.visits.modify d _).length=_;rw [List.length_modify];exact h.vis,h.flag⟩
def aGQ (f:FuncD) (w:World) (bs:Nat):Prop := ∃ (bt bg:Nat) (bv:Value),w.cell? ⟨bs,0,none⟩=some (.pointer (some ⟨bt,0,none⟩))/\w.cell? ⟨bt,0,none⟩=some (.pointer (some ⟨bg,0,none⟩))/\w.cell? ⟨bg,3,none⟩=some bv/\eQ gF 6 w bv f.blocks
def Env (f:FuncD) (base:Nat) (W:World) (bs:Nat):Prop := ∃ w0:World,w0.heap.size=base/\Below base w0 W/\aGQ f w0 bs
theorem Env.later {f:FuncD} {base:Nat} {W W' : World} {bs:Nat} (h:Env f base W bs) (hb:Below base W W'):Env f base W' bs:=by
 obtain ⟨w0,h1,h2,h3⟩:=h
 exact ⟨w0,h1,h2.trans hb,h3⟩
theorem MOk.below {base bs fuel:Nat} {w w' : World} {bm:Nat} {D:Foot} {s s' : RunS} (hM:Mach base bs fuel w bm D s) (hB:base <= w.heap.size) (h:MOk base bs fuel w bm D s' w'):Below base w w':=by
 obtain ⟨D',_,ho,_⟩:=h
 exact ho.below hB (fun k _ hk=>hM.base k hk)
theorem pW {l:List Nat} {i n:Nat} (h:l[i]? = some n):natI (l.modify i (· + 1))=(natI l).set i (((n+1:Nat):Int)):=by
 rw [qG _ h]
 unfold natI
 rw [List.map_set]
theorem aAE (z:Int):In64 (IntKind.i64.wrap z):=by
 rw [fR]
 unfold wrap64 In64
 omega
theorem nI (b:Bool):In64 (iT b):=by
 rcases kN b with h | h
 ·rw [h];exact ⟨by decide,by decide⟩
 rw [h];exact ⟨by decide,by decide⟩
theorem aEM {a b:Int} (hb:b ≠ 0) (h:In64 b):In64 (a.tmod b):=by
 have h1:=Int.natAbs_tmod a b
 have h2:a.natAbs % b.natAbs < b.natAbs:=Nat.mod_lt _ (by omega)
 unfold In64 at h ⊢
 omega
theorem oM {xs:List Int} (h:∀ x ∈ xs,In64 x) (i:Nat):In64 (xs.getD i 0):=by
 rw [aH]
 cases h9:xs[i]? with
 | none=>exact ⟨by decide,by decide⟩
 | some y=>exact h y (aG h9)
theorem rT {c:Prop} [Decidable c] {a b:Int} (ha:c -> In64 a) (hb:¬ c -> In64 b):In64 (if c then a else b):=by
 split
 ·rename_i h;exact ha h
 rename_i h;exact hb h
theorem aB5 {op:Int} {a:List Int} (h:∀ x ∈ a,In64 x):In64 (lK op a):=by
 have h0:In64 0:=⟨by decide,by decide⟩
 unfold lK
 split
 ·exact h0
 split
 ·exact nI _
 split
 ·split
  ·exact oM h 1
  exact oM h 2
 split
 ·exact h0
 rename_i hz
 unfold fH
 iterate 8 (refine rT (fun _=>aAE _) (fun _ => ?_))
 refine rT (fun _=>aAE _) (fun _ => ?_)
 refine rT (fun h12=>aEM (fun e=>hz ⟨.inr h12,e⟩) (oM h 1)) (fun _ => ?_)
 refine rT (fun _=>nI _) (fun _ => ?_)
 exact rT (fun _=>nI _) (fun _=>nI _)
theorem MachP.arr64 {base bs fuel:Nat} {W:World} {bm:Nat} {s:RunS} {o:OverD} {ov av vv cv:Value} {mv:Nat} {m:List (Int × Value)} {F:Nat -> Foot} (h:MachP base bs fuel W bm s o ov av vv cv mv m F):∀ a ∈ s.arrays, ∀ x ∈ a,In64 x:=fun a ha x hx=>by
 obtain ⟨i,hi⟩:=bP ha
 obtain ⟨_,_,_,_,_,_,_,_,hints,_⟩:=h.arr.open hi
 exact hints.2 x hx
theorem xE {op n i:Int} {s:RunS}:∀ {u s1},mK op n i s = .go u s1 -> s1=fY op s:=fun {u s1} h=>by
 unfold mK at h
 split at h
 ·cases h
 injection h with _ h;exact h.symm
theorem vA {x:InstrD} {s s1:RunS} {v:Int} (hn:In64 x.n) (hv:∀ i,In64 (s.vals i)) (ha:∀ a ∈ s.arrays, ∀ x ∈ a,In64 x) (hl:∀ a ∈ s.arrays,a.length <= 4096) (hc:∀ x ∈ s.cells,In64 x) (h:fA x s = .go v s1):In64 v:=by
 have h0:In64 0:=⟨by decide,by decide⟩
 unfold fA at h
 split at h
 ·injection h with h;rw [<-h];exact hn
 split at h
 ·injection h with h
  rw [<-h,aH]
  cases h9:s.arrays[x.n.toNat]? with
  | none=>exact h0
  | some a=>have:=hl a (aG h9);show In64 ((a.length:Nat):Int);unfold In64;omega
 split at h
 ·cases he:mK x.op x.n ((x.args.map s.vals).getD 0 0) s with
  | over o s2=>rw [he] at h;cases h
  | go u s2 =>
   rw [he] at h
   injection h with h
   have e:=xE he
   rw [<-h,e,eT]
   refine oM (fun z hz => ?_) _
   rw [aH] at hz
   cases h9:s.arrays[x.n.toNat]? with
   | none=>rw [h9] at hz;simp at hz
   | some a=>rw [h9] at hz;exact ha a (aG h9) z hz
 split at h
 ·cases he:mK x.op x.n ((x.args.map s.vals).getD 0 0) s with
  | over o s2=>rw [he] at h;cases h
  | go u s2=>rw [he] at h;injection h with h;rw [<-h];exact h0
 split at h
 ·split at h
  ·cases h
  injection h with h;rw [<-h];exact h0
 split at h
 ·injection h with h;rw [<-h];exact oM hc _
 split at h
 ·injection h with h;rw [<-h];exact h0
 split at h
 ·cases h
 injection h with h
 rw [<-h]
 refine aB5 fun z hz => ?_
 rw [aY] at hz
 obtain ⟨q,_,rfl⟩:=hz
 exact hv q
end Go.Proofs.YtcmflfkpeodicaaGreat
