/- Part 37. -/
import Derived.Test.YtgmhnepmkaonaaaGreatPE36
import Derived.Test.YtgmhnepmkaonaaaGreatPE33
import Derived.Test.YtgmhnepmkaonaaaGreatPE27
import Derived.Test.YtgmhnepmkaonaaaGreatPE35
namespace Go.Proofs.YtgmhnepmkaonaaaGreat
set_option linter.all false
open Go.RowKit
def oF (W:World) (v:Value) (x:InstrD):Prop := ∃ u,v = .agg #[.int .i64 x.op,.int .i64 x.id,u,.int .i64 x.n]/\Ints W u x.args
theorem oF.below {W W' : World} {v:Value} {x:InstrD} (h:oF W v x) (hb:Below W.heap.size W W'):oF W' v x:=let ⟨u,e,k⟩:=h; ⟨u,e,k.below hb⟩
structure RunOk (ar ce:Int) (s:RunS):Prop where
 al:s.arrays.length=ar.toNat
 cl:s.cells.length=ce.toNat
 len:∀ a ∈ s.arrays,a.length <= 4096
 out:s.out.length <= 4096
 chk:s.checks <= 200000
structure InsOk (ar ce:Int) (x:InstrD):Prop where
 shp:(shp x.op).isSome=true
 args:x.args.length=(shp0 x.op).args.length
 n:nOk ar ce (shp0 x.op).n x.n=true
theorem oL {ar ce n:Int} (h:nOk ar ce 3 n=true):0 <= n/\n < ar:=by
 unfold nOk topN at h
 simp at h
 omega
theorem aEI {ar ce n:Int} (h:nOk ar ce 4 n=true):0 <= n/\n < ce:=by
 unfold nOk topN at h
 simp at h
 omega
theorem u4 {op:Int} (h:(shp op).isSome=true):op=1 \/ op=2 \/ op=18 \/ op=19 \/ op=21 \/ op=20 \/ op=22 \/ op=23 \/ op=24 \/ op=25 \/ (3 <= op/\op <= 17):=by
 refine Classical.byContradiction fun hn => ?_
 unfold shp at h
 rw [if_neg (by omega),if_neg (by omega),if_neg (by omega),if_neg (by omega),if_neg (by omega),if_neg (by omega),if_neg (by omega),if_neg (by omega),if_neg (by omega),if_neg (by omega),if_neg (by omega),if_neg (by omega)] at h
 cases h
theorem aE1 (op:Int):(shp0 op).args.length <= 3:=by
 have key:∀ (c:Prop) [Decidable c] (a b:Option Shp),(a.getD ⟨0,[],0⟩).args.length <= 3 -> (b.getD ⟨0,[],0⟩).args.length <= 3 -> ((if c then a else b).getD ⟨0,[],0⟩).args.length <= 3:=by
  intro c _ a b ha hb
  split
  ·exact ha
  exact hb
 unfold shp0 shp
 iterate 12 (refine key _ _ _ (by decide) ?_)
 decide
theorem zK {op id n:Int} {args:List Int} {s:RunS} (h:op=18) {nn:Nat} (hn:n=nn) {a:List Int} (ha:s.arrays[nn]? = some a):fE ⟨op,id,args,n⟩ s = .go a.length s:=by
 subst h;subst hn
 unfold fE
 simp [aH,ha]
theorem rQ {op n i:Int} {s:RunS} {nn:Nat} (hn:n=nn) {a:List Int} (ha:s.arrays[nn]? = some a) (h:i < 0 \/ (a.length:Int) <= i):j0 op n i s = .over (pL op) (fW op s):=by
 subst hn
 unfold j0
 rw [if_pos]
 simpa [List.getD_eq_getElem?_getD,ha] using h
theorem zL {op n i:Int} {s:RunS} {nn:Nat} (hn:n=nn) {a:List Int} (ha:s.arrays[nn]? = some a) (h:¬ (i < 0 \/ (a.length:Int) <= i)):j0 op n i s = .go () (fW op s):=by
 subst hn
 unfold j0
 rw [if_neg]
 simpa [List.getD_eq_getElem?_getD,ha] using h
theorem iW (op:Int) (s:RunS):(fW op s).arrays=s.arrays:=by unfold fW;split <;> rfl
theorem pW {op id n:Int} {args:List Int} {s:RunS} (h:op=19 \/ op=21) {nn:Nat} (hn:n=nn) {a:List Int} (ha:s.arrays[nn]? = some a) {y:Int} (hy:(args.map s.vals).getD 0 0=y) :
  ((y < 0 \/ (a.length:Int) <= y) -> fE ⟨op,id,args,n⟩ s = .over (pL op) (fW op s)) /\ ∀ (j:Nat) (x:Int),y=j -> a[j]? = some x -> fE ⟨op,id,args,n⟩ s = .go x (fW op s):=by
 have h0:fE ⟨op,id,args,n⟩ s=(j0 op n y s).bind fun _ s1=>.go ((s1.arrays.getD n.toNat []).getD y.toNat 0) s1:=by
  unfold fE
  simp only
  rw [if_neg (by omega),if_neg (by omega),if_pos h,hy]
 constructor
 ·intro hw
  rw [h0,rQ hn ha hw];rfl
 ·intro j x hj hx
  have hjl:=(aD.1 hx).1
  rw [h0,zL hn ha (by omega)]
  show Res.go (((fW op s).arrays.getD n.toNat []).getD y.toNat 0) (fW op s)=_
  rw [iW]
  subst hn;subst hj
  simp [aH,ha,hx]
theorem zM {α : Type} {l:List α} {i:Nat} {x : α} (g : α -> α) (h:l[i]? = some x):l.modify i g=l.set i (g x):=lW g h
theorem oM {op id n:Int} {args:List Int} {s:RunS} (h:op=20 \/ op=22) {nn:Nat} (hn:n=nn) {a:List Int} (ha:s.arrays[nn]? = some a) {y z:Int} (hy:(args.map s.vals).getD 0 0=y) (hz:(args.map s.vals).getD 1 0=z) :
  ((y < 0 \/ (a.length:Int) <= y) -> fE ⟨op,id,args,n⟩ s = .over (pL op) (fW op s)) /\ ∀ (j:Nat),y=j -> j < a.length -> fE ⟨op,id,args,n⟩ s = .go 0 { fW op s with arrays:=s.arrays.set nn (a.set j z) }:=by
 have h0:fE ⟨op,id,args,n⟩ s=(j0 op n y s).bind fun _ s1=>.go 0 { s1 with arrays:=s1.arrays.modify n.toNat fun a=>a.set y.toNat z }:=by
  unfold fE
  simp only
  rw [if_neg (by omega),if_neg (by omega),if_neg (by omega),if_pos h,hy,hz]
 constructor
 ·intro hw
  rw [h0,rQ hn ha hw];rfl
 ·intro j hj hx
  rw [h0,zL hn ha (by omega)]
  show Res.go 0 { fW op s with arrays:=(fW op s).arrays.modify n.toNat fun a=>a.set y.toNat z } = _
  rw [iW]
  subst hn;subst hj
  rw [cH,cH,zM _ ha]
theorem zN {id n:Int} {args:List Int} {s:RunS} {y:Int} (hy:(args.map s.vals).getD 0 0=y):fE ⟨23,id,args,n⟩ s=if s.out.length=4096 then .over ⟨4,0,0⟩ s else .go 0 { s with out:=s.out ++ [y] }:=by
 unfold fE
 simp only
 rw [if_neg (by omega),if_neg (by omega),if_neg (by omega),if_neg (by omega),if_pos trivial,hy]
theorem zO {id n:Int} {args:List Int} {s:RunS} {nn:Nat} (hn:n=nn) {z:Int} (hz:s.cells[nn]? = some z):fE ⟨24,id,args,n⟩ s = .go z s:=by
 subst hn
 unfold fE
 simp [aH,hz]
theorem zP {id n:Int} {args:List Int} {s:RunS} {nn:Nat} (hn:n=nn) {y:Int} (hy:(args.map s.vals).getD 0 0=y):fE ⟨25,id,args,n⟩ s = .go 0 { s with cells:=s.cells.set nn y }:=by
 subst hn
 unfold fE
 simp only
 rw [if_neg (by omega),if_neg (by omega),if_neg (by omega),if_neg (by omega),if_neg (by omega),if_neg (by omega),if_pos trivial,hy]
 simp
theorem pX {op id n:Int} {args:List Int} {s:RunS} (h:3 <= op/\op <= 17):fE ⟨op,id,args,n⟩ s=if nB op (args.map s.vals) ≠ 0 then .over ⟨2,0, -1⟩ s else .go (mA op (args.map s.vals)) s:=by
 unfold fE
 simp only
 rw [if_neg (by omega),if_neg (by omega),if_neg (by omega),if_neg (by omega),if_neg (by omega),if_neg (by omega),if_neg (by omega)]
structure GoodS (f:FuncD) (fuel:Nat) (s:RunS):Prop where
 al:s.arrays.length=f.arrays.toNat
 cl:s.cells.length=f.cells.toNat
 len:∀ a ∈ s.arrays,a.length <= 4096
 out:s.out.length <= 4096
 chk:s.checks <= s.steps
 stp:s.steps <= fuel
 vis:s.visits.length=f.blocks.length
 flag:∀ id,tyOf (eY f) id=some 2 -> s.vals id=0 \/ s.vals id=1
theorem GoodS.run {f:FuncD} {fuel:Nat} {s:RunS} (h:GoodS f fuel s) (hf:fuel <= 200000):RunOk f.arrays f.cells s:=⟨h.al,h.cl,h.len,h.out,by have:=h.chk;have:=h.stp;omega⟩
theorem GoodS.step {f:FuncD} {fuel:Nat} {s s1:RunS} (h:GoodS f fuel s) (hs:gK fuel s = .go () s1):s1 = { s with steps:=s.steps+1 } /\ GoodS f fuel s1/\s1.checks+1 <= s1.steps:=by
 unfold gK at hs
 split at hs
 ·cases hs
 rename_i hne
 injection hs with _ hs
 subst hs
 have:=h.stp
 have:=h.chk
 exact ⟨rfl,⟨h.al,h.cl,h.len,h.out,by show s.checks <= s.steps+1;omega,by show s.steps+1 <= fuel;omega,h.vis,h.flag⟩,by show s.checks+1 <= s.steps+1;omega⟩
theorem kE (b:Bool):lP b=0 \/ lP b=1:=by cases b <;> simp [lP]
theorem zQ {op:Int} {a:List Int} (h:op=13 \/ op=14 \/ op=15 \/ op=16):mA op a=0 \/ mA op a=1:=by
 unfold mA
 split
 ·exact .inl rfl
 split
 ·exact kE _
 rw [if_neg (by omega),if_neg (by omega)]
 unfold iV
 rw [if_neg (by omega),if_neg (by omega),if_neg (by omega),if_neg (by omega),if_neg (by omega),if_neg (by omega),if_neg (by omega),if_neg (by omega),if_neg (by omega),if_neg (by omega)]
 split
 ·exact kE _
 split
 ·exact kE _
 exact kE _
theorem aE2 {op:Int} (h:(shp0 op).result=2):op=2 \/ op=13 \/ op=14 \/ op=15 \/ op=16:=by
 refine Classical.byContradiction fun hn => ?_
 have hs:(shp op).isSome=true:=by
  cases hs:shp op with
  | none=>unfold shp0 at h;rw [hs] at h;simp at h
  | some _=>rfl
 have key:∀ (op:Int),(3 <= op/\op <= 12) \/ op=17 -> (shp0 op).result=1:=fun op h=>by
  unfold shp0 shp
  rcases h with h | rfl
  ·rw [if_neg (by omega),if_neg (by omega),if_neg (by omega),if_neg (by omega),if_neg (by omega),if_neg (by omega),if_neg (by omega),if_neg (by omega),if_neg (by omega),if_neg (by omega),if_neg (by omega),if_pos h];rfl
  rfl
 rcases u4 hs with rfl | rfl | rfl | rfl | rfl | rfl | rfl | rfl | rfl | rfl | h9
 ·revert h;decide
 ·omega
 ·revert h;decide
 ·revert h;decide
 ·revert h;decide
 ·revert h;decide
 ·revert h;decide
 ·revert h;decide
 ·revert h;decide
 ·revert h;decide
 have:=key op (by omega)
 omega
theorem zR {ar ce:Int} {x:InstrD} {s s1:RunS} {v:Int} (hx:InsOk ar ce x) (h2:(shp0 x.op).result=2) (h:fE x s = .go v s1):v=0 \/ v=1:=by
 obtain ⟨op,id,args,n⟩:=x
 simp only at h2
 rcases aE2 h2 with rfl | h9
 ·have hn:=hx.n
  unfold fE at h
  simp at h
  rw [<-h.1]
  unfold nOk topN at hn
  simp [shp0,shp] at hn
  omega
 rw [pX (by omega)] at h
 split at h
 ·cases h
 injection h with h _
 rw [<-h]
 exact zQ h9
theorem rR (op:Int) (s:RunS):(fW op s).cells=s.cells/\(fW op s).out=s.out/\(fW op s).steps=s.steps/\(fW op s).visits=s.visits/\(fW op s).vals=s.vals/\(fW op s).checks <= s.checks+1:=by
 unfold fW
 split
 ·exact ⟨rfl,rfl,rfl,rfl,rfl,aB _⟩
 exact ⟨rfl,rfl,rfl,rfl,rfl,by omega⟩
theorem pY (op n i:Int) (s:RunS):j0 op n i s = .over (pL op) (fW op s) \/ j0 op n i s = .go () (fW op s):=by
 unfold j0
 split
 ·exact .inl rfl
 exact .inr rfl
structure After (s s1:RunS):Prop where
 al:s1.arrays.length=s.arrays.length
 cl:s1.cells.length=s.cells.length
 len:(∀ a ∈ s.arrays,a.length <= 4096) -> ∀ a ∈ s1.arrays,a.length <= 4096
 out:s.out.length <= 4096 -> s1.out.length <= 4096
 chk:s1.checks <= s.checks+1
 stp:s1.steps=s.steps
 vis:s1.visits=s.visits
 vals:s1.vals=s.vals
theorem After.refl (s:RunS):After s s:=⟨rfl,rfl,fun h=>h,fun h=>h,by omega,rfl,rfl,rfl⟩
theorem After.look (op:Int) (s:RunS):After s (fW op s):=by
 obtain ⟨h1,h2,h3,h4,h5,h6⟩:=rR op s
 exact ⟨by rw [iW],by rw [h1],by rw [iW];exact fun h=>h,by rw [h2];exact fun h=>h,h6,h3,h4,h5⟩
theorem oN (x:InstrD) (s:RunS):After s (fE x s).st:=by
 unfold fE
 split
 ·exact After.refl s
 split
 ·exact After.refl s
 split
 ·rcases pY x.op x.n ((x.args.map s.vals).getD 0 0) s with h | h
  ·rw [h];exact After.look _ s
  rw [h];exact After.look _ s
 split
 ·rcases pY x.op x.n ((x.args.map s.vals).getD 0 0) s with h | h
  ·rw [h];exact After.look _ s
  rw [h]
  obtain ⟨h1,h2,h3,h4,h5,h6⟩:=rR x.op s
  refine ⟨?_,by show (fW x.op s).cells.length=_;rw [h1], ?_, ?_,h6,h3,h4,h5⟩
  ·show ((fW x.op s).arrays.modify _ _).length=_
   rw [List.length_modify,iW]
  ·intro hl a ha
   change a ∈ (fW x.op s).arrays.modify _ _ at ha
   rw [iW] at ha
   obtain ⟨i,hi⟩:=cU ha
   rw [dQ] at hi
   cases hq:s.arrays[i]? with
   | none=>rw [hq] at hi;simp at hi
   | some b =>
    rw [hq] at hi
    have:=hl b (aG hq)
    simp at hi
    rw [<-hi]
    split
    ·rw [bT];exact this
    exact this
  show s.out.length <= 4096 -> (fW x.op s).out.length <= 4096
  rw [h2];exact fun h=>h
 split
 ·split
  ·exact After.refl s
  rename_i hne
  refine ⟨rfl,rfl,fun h=>h,fun h => ?_,by show s.checks <= s.checks+1;omega,rfl,rfl,rfl⟩
  show (s.out ++ [_]).length <= 4096
  rw [aM,dE]
  omega
 split
 ·exact After.refl s
 split
 ·exact ⟨rfl,by show (s.cells.set _ _).length=_;rw [bT],fun h=>h,fun h=>h,by show s.checks <= s.checks+1;omega,rfl,rfl,rfl⟩
 split
 ·exact After.refl s
 exact After.refl s
theorem mD {T:List (Int × Int)} (hn:(T.map (·.1)).Nodup) {id t:Int} (h:(id,t) ∈ T):tyOf T id=some t:=by
 cases ht:tyOf T id with
 | none=>exact absurd (aZ.2 ⟨_,h,rfl⟩) (kN.1 ht)
 | some u =>
  have h2:=vQ ht
  obtain ⟨i,hi⟩:=cU h
  obtain ⟨j,hj⟩:=cU h2
  have h3:(T.map (·.1))[i]? = some id:=by rw [aN,hi];rfl
  have h4:(T.map (·.1))[j]? = some id:=by rw [aN,hj];rfl
  obtain ⟨h5,h6⟩:=aD.1 h3
  obtain ⟨h7,h8⟩:=aD.1 h4
  have:i=j:=(List.getElem_inj hn).1 (by rw [h6,h8])
  rw [this,hj] at hi
  injection hi with hi
  injection hi with _ hi
  rw [hi]
theorem nN {f:FuncD} (hc:d7 f=0):((eY f).map (·.1)).Nodup:=nU (eX hc).2
theorem zS {f:FuncD} (hc:d7 f=0) {b:BlockD} (hb:b ∈ f.blocks) {x:InstrD} (hx:x ∈ b.code) (hid:0 <= x.id):tyOf (eY f) x.id=some (shp0 x.op).result:=by
 refine mD (nN hc) ?_
 unfold eY m8
 rw [aK,bK]
 right
 refine ⟨b,hb, ?_⟩
 unfold iI
 rw [aK]
 right
 exact List.mem_map.2 ⟨x,List.mem_filter.2 ⟨hx,by have:=(vA hc b hb x hx).1 hid;simpa using this⟩,rfl⟩
theorem aCU {f:FuncD} (hc:d7 f=0) {b:BlockD} (hb:b ∈ f.blocks) {p:PhiD} (hp:p ∈ b.phis):tyOf (eY f) p.id=some p.typ:=by
 refine mD (nN hc) ?_
 unfold eY m8
 rw [aK,bK]
 right
 refine ⟨b,hb, ?_⟩
 unfold iI
 rw [aK,aZ]
 left
 exact ⟨p,hp,rfl⟩
theorem aEJ {f:FuncD} (hc:d7 f=0) {b:BlockD} (hb:b ∈ f.blocks) {x:InstrD} (hx:x ∈ b.code):InsOk f.arrays f.cells x:=by
 obtain ⟨i,hi⟩:=cU hb
 have h1:=(fX.1 ((iM.1 hc).2.2.1 i b hi)).2.2.1
 rw [aU] at h1
 have h2:=h1 x hx
 unfold fZ at h2
 simp only [aI,beq_iff_eq] at h2
 exact ⟨h2.1.1.1,h2.1.1.2,h2.1.2⟩
theorem GoodS.put {f:FuncD} {fuel:Nat} {s:RunS} (hc:d7 f=0) (h:GoodS f fuel s) {b:BlockD} (hb:b ∈ f.blocks) {x:InstrD} (hx:x ∈ b.code) {v:Int} (hv:(shp0 x.op).result=2 -> v=0 \/ v=1):GoodS f fuel (putS x v s):=by
 unfold putS
 split
 ·rename_i hid
  refine ⟨h.al,h.cl,h.len,h.out,h.chk,h.stp,h.vis,fun id ht => ?_⟩
  show (if id=x.id then v else s.vals id)=0 \/ (if id=x.id then v else s.vals id)=1
  by_cases e:id=x.id
  ·rw [if_pos e]
   rw [e,zS hc hb hx hid] at ht
   injection ht with ht
   exact hv ht
  rw [if_neg e];exact h.flag id ht
 exact h
theorem GoodS.after {f:FuncD} {fuel:Nat} {s s1:RunS} (h:GoodS f fuel s) (hc:s.checks+1 <= s.steps) (ha:After s s1):GoodS f fuel s1 :=
 ⟨ha.al.trans h.al,ha.cl.trans h.cl,ha.len h.len,ha.out h.out,by have:=ha.chk;have:=ha.stp;omega,by have:=ha.stp;have:=h.stp;omega,by rw [ha.vis];exact h.vis,by rw [ha.vals];exact h.flag⟩
theorem GoodS.one {f:FuncD} {fuel:Nat} {s s1:RunS} (hc:d7 f=0) (h:GoodS f fuel s) {b:BlockD} (hb:b ∈ f.blocks) {x:InstrD} (hx:x ∈ b.code) (hs:oneS fuel x s = .go () s1):GoodS f fuel s1:=by
 unfold oneS at hs
 cases h1:gK fuel s with
 | over o s2=>rw [h1] at hs;cases hs
 | go u s2 =>
  rw [h1] at hs
  change (fE x s2).bind (fun v s2=>.go () (putS x v s2))=_ at hs
  obtain ⟨-,g2,c2⟩:=h.step h1
  cases h3:fE x s2 with
  | over o s3=>rw [h3] at hs;cases hs
  | go v s3 =>
   rw [h3] at hs
   change Res.go () (putS x v s3)=_ at hs
   injection hs with _ hs
   rw [<-hs]
   have ha:=oN x s2
   rw [h3] at ha
   exact (g2.after c2 ha).put hc hb hx (fun h2=>zR (aEJ hc hb hx) h2 h3)
theorem GoodS.code {f:FuncD} {fuel:Nat} (hc:d7 f=0) {b:BlockD} (hb:b ∈ f.blocks):∀ {xs:List InstrD} {s s1:RunS},(∀ x ∈ xs,x ∈ b.code) -> GoodS f fuel s -> gW fuel xs s = .go () s1 -> GoodS f fuel s1
 | [],s,s1,_,h,hs=>by injection hs with _ hs;rw [<-hs];exact h
 | x :: xs,s,s1,hx,h,hs=>by
  unfold gW at hs
  cases h1:oneS fuel x s with
  | over o s2=>rw [h1] at hs;cases hs
  | go u s2 =>
   rw [h1] at hs
   exact GoodS.code hc hb (fun y hy=>hx y (bS _ hy)) (h.one hc hb (hx x (by simp)) h1) hs
theorem qT {f:FuncD} (hc:d7 f=0) {u:Int × Int} (hu:u ∈ kC f) (h2:u.2 ≠ 0):tyOf (eY f) u.1=some u.2:=by
 unfold kC at hu
 rw [bK] at hu
 obtain ⟨x,hx,hu⟩:=hu
 obtain ⟨h1,h3⟩:=(iM.1 hc).2.2.2.2 x hx u hu
 cases ht:tyOf (eY f) u.1 with
 | none=>rw [ht] at h1;simp at h1
 | some t =>
  unfold lA at h3
  rw [ht] at h3
  simp only [Bool.and_eq_false_iff,bne_eq_false_iff_eq] at h3
  rcases h3 with h3 | h3
  ·exact absurd h3 h2
  rw [h3]
theorem aE3 {f:FuncD} {b:BlockD} (hb:b ∈ f.blocks) {p:PhiD} (hp:p ∈ b.phis) {v:Int} (hv:v ∈ p.vals):(v,p.typ) ∈ kC f:=by
 unfold kC
 rw [bK]
 refine ⟨b,hb, ?_⟩
 unfold l9
 rw [aK,aK]
 left;left
 rw [bK]
 refine ⟨p,hp, ?_⟩
 unfold mM
 exact aZ.2 ⟨v,hv,rfl⟩
theorem pZ {f:FuncD} {b:BlockD} (hb:b ∈ f.blocks) (h:b.term.op=2):(b.term.val,2) ∈ kC f:=by
 unfold kC
 rw [bK]
 refine ⟨b,hb, ?_⟩
 unfold l9 nW
 rw [aK,if_pos h]
 right
 simp
theorem aEK {f:FuncD} (hc:d7 f=0) {d:Nat} {b:BlockD} (hb:f.blocks[d]? = some b) {p:PhiD} (hp:p ∈ b.phis) {src:Int} (hs:src ∈ p.src):p.src.idxOf src < p.vals.length/\p.vals.getD (p.src.idxOf src) 0 ∈ p.vals:=by
 have hl:=((jC (eX hc).1).phi b (aG hb) p hp).1
 have h1:=cM hs
 refine ⟨by omega, ?_⟩
 rw [aH,aC (by omega),dI]
 exact dV _
theorem wE (pv:List (PhiD × Int)):∀ s:RunS,kZ s pv = { s with vals:=(kZ s pv).vals }:=by
 induction pv with
 | nil=>intro s;rfl
 | cons q pv ih =>
  intro s
  have h:=ih (setV s q.1.id q.2)
  show kZ (setV s q.1.id q.2) pv=_
  rw [h]
  rfl
theorem wF (s:RunS) (pv:List (PhiD × Int)) (q:PhiD × Int):kZ s (pv ++ [q])=setV (kZ s pv) q.1.id q.2:=by
 unfold kZ
 rw [List.foldl_append];rfl
theorem GoodS.puts {f:FuncD} {fuel:Nat} (hc:d7 f=0) {b:BlockD} (hb:b ∈ f.blocks):∀ {pv:List (PhiD × Int)} {s:RunS},(∀ q ∈ pv,q.1 ∈ b.phis/\(q.1.typ=2 -> q.2=0 \/ q.2=1)) -> GoodS f fuel s -> GoodS f fuel (kZ s pv)
 | [],s,_,h=>h
 | q :: pv,s,hq,h=>by
  refine GoodS.puts hc hb (pv:=pv) (s:=setV s q.1.id q.2) (fun r hr=>hq r (bS _ hr)) ?_
  obtain ⟨h1,h2⟩:=hq q (by simp)
  refine ⟨h.al,h.cl,h.len,h.out,h.chk,h.stp,h.vis,fun id ht => ?_⟩
  show (if id=q.1.id then q.2 else s.vals id)=0 \/ (if id=q.1.id then q.2 else s.vals id)=1
  by_cases e:id=q.1.id
  ·rw [if_pos e]
   rw [e,aCU hc hb h1] at ht
   injection ht with ht
   exact h2 ht
  rw [if_neg e];exact h.flag id ht
theorem GoodS.phis {f:FuncD} {fuel:Nat} {s:RunS} (hc:d7 f=0) (h:GoodS f fuel s) {d:Nat} {b:BlockD} (hb:f.blocks[d]? = some b) {src:Int} (hs:∀ p ∈ b.phis,src ∈ p.src):GoodS f fuel (kO b src s):=by
 have hbm:=aG hb
 unfold kO
 refine GoodS.puts hc hbm (fun q hq => ?_) h
 rw [aZ] at hq
 obtain ⟨p,hp,rfl⟩:=hq
 refine ⟨hp,fun ht => ?_⟩
 obtain ⟨-,hv⟩:=aEK hc hb hp (hs p hp)
 unfold phiV
 have hu:=qT hc (aE3 hbm hp hv) (by show p.typ ≠ 0;simp only at ht;omega)
 simp only at ht hu
 rw [ht] at hu
 exact h.flag _ hu
theorem GoodS.visit {f:FuncD} {fuel:Nat} {s:RunS} (h:GoodS f fuel s) (d:Nat):GoodS f fuel (f6 d s) :=
 ⟨h.al,h.cl,h.len,h.out,h.chk,h.stp,by show (s.visits.modify d _).length=_;rw [List.length_modify];exact h.vis,h.flag⟩
def aGY (f:FuncD) (w:World) (bs:Nat):Prop := ∃ (bt bg:Nat) (bv:Value),w.cell? ⟨bs,0,none⟩=some (.pointer (some ⟨bt,0,none⟩))/\w.cell? ⟨bt,0,none⟩=some (.pointer (some ⟨bg,0,none⟩))/\w.cell? ⟨bg,3,none⟩=some bv/\eW gP 6 w bv f.blocks
def Env (f:FuncD) (base:Nat) (W:World) (bs:Nat):Prop := ∃ w0:World,w0.heap.size=base/\Below base w0 W/\aGY f w0 bs
theorem Env.later {f:FuncD} {base:Nat} {W W' : World} {bs:Nat} (h:Env f base W bs) (hb:Below base W W'):Env f base W' bs:=by
 obtain ⟨w0,h1,h2,h3⟩:=h
 exact ⟨w0,h1,h2.trans hb,h3⟩
theorem MOk.below {base bs fuel:Nat} {w w' : World} {bm:Nat} {D:Foot} {s s' : RunS} (hM:Mach base bs fuel w bm D s) (hB:base <= w.heap.size) (h:MOk base bs fuel w bm D s' w'):Below base w w':=by
 obtain ⟨D',_,ho,_⟩:=h
 exact ho.below hB (fun k _ hk=>hM.base k hk)
theorem wG {l:List Nat} {i n:Nat} (h:l[i]? = some n):natI (l.modify i (· + 1))=(natI l).set i (((n+1:Nat):Int)):=by
 rw [lW _ h]
 unfold natI
 rw [List.map_set]
theorem zT (z:Int):In64 (IntKind.i64.wrap z):=by
 rw [gZ]
 unfold wrap64 In64
 omega
theorem oO (b:Bool):In64 (lP b):=by
 rcases kE b with h | h
 ·rw [h];exact ⟨by decide,by decide⟩
 rw [h];exact ⟨by decide,by decide⟩
theorem aE4 {a b:Int} (hb:b ≠ 0) (h:In64 b):In64 (a.tmod b):=by
 have h1:=Int.natAbs_tmod a b
 have h2:a.natAbs % b.natAbs < b.natAbs:=Nat.mod_lt _ (by omega)
 unfold In64 at h ⊢
 omega
theorem oP {xs:List Int} (h:∀ x ∈ xs,In64 x) (i:Nat):In64 (xs.getD i 0):=by
 rw [aH]
 cases h9:xs[i]? with
 | none=>exact ⟨by decide,by decide⟩
 | some y=>exact h y (aG h9)
theorem rS {c:Prop} [Decidable c] {a b:Int} (ha:c -> In64 a) (hb:¬ c -> In64 b):In64 (if c then a else b):=by
 split
 ·rename_i h;exact ha h
 rename_i h;exact hb h
theorem aCV {op:Int} {a:List Int} (h:∀ x ∈ a,In64 x):In64 (mA op a):=by
 have h0:In64 0:=⟨by decide,by decide⟩
 unfold mA
 split
 ·exact h0
 split
 ·exact oO _
 split
 ·split
  ·exact oP h 1
  exact oP h 2
 split
 ·exact h0
 rename_i hz
 unfold iV
 iterate 8 (refine rS (fun _=>zT _) (fun _ => ?_))
 refine rS (fun _=>zT _) (fun _ => ?_)
 refine rS (fun h12=>aE4 (fun e=>hz ⟨.inr h12,e⟩) (oP h 1)) (fun _ => ?_)
 refine rS (fun _=>oO _) (fun _ => ?_)
 exact rS (fun _=>oO _) (fun _=>oO _)
theorem MachP.arr64 {base bs fuel:Nat} {W:World} {bm:Nat} {s:RunS} {o:OverD} {ov av vv cv:Value} {mv:Nat} {m:List (Int × Value)} {F:Nat -> Foot} (h:MachP base bs fuel W bm s o ov av vv cv mv m F):∀ a ∈ s.arrays, ∀ x ∈ a,In64 x:=fun a ha x hx=>by
 obtain ⟨i,hi⟩:=cU ha
 obtain ⟨_,_,_,_,_,_,_,_,hints,_⟩:=h.arr.open hi
 exact hints.2 x hx
theorem wH {op n i:Int} {s:RunS}:∀ {u s1},j0 op n i s = .go u s1 -> s1=fW op s:=fun {u s1} h=>by
 unfold j0 at h
 split at h
 ·cases h
 injection h with _ h;exact h.symm
theorem aCW {x:InstrD} {s s1:RunS} {v:Int} (hn:In64 x.n) (hv:∀ i,In64 (s.vals i)) (ha:∀ a ∈ s.arrays, ∀ x ∈ a,In64 x) (hl:∀ a ∈ s.arrays,a.length <= 4096) (hc:∀ x ∈ s.cells,In64 x) (h:fE x s = .go v s1):In64 v:=by
 have h0:In64 0:=⟨by decide,by decide⟩
 unfold fE at h
 split at h
 ·injection h with h;rw [<-h];exact hn
 split at h
 ·injection h with h
  rw [<-h,aH]
  cases h9:s.arrays[x.n.toNat]? with
  | none=>exact h0
  | some a=>have:=hl a (aG h9);show In64 ((a.length:Nat):Int);unfold In64;omega
 split at h
 ·cases he:j0 x.op x.n ((x.args.map s.vals).getD 0 0) s with
  | over o s2=>rw [he] at h;cases h
  | go u s2 =>
   rw [he] at h
   injection h with h
   have e:=wH he
   rw [<-h,e,iW]
   refine oP (fun z hz => ?_) _
   rw [aH] at hz
   cases h9:s.arrays[x.n.toNat]? with
   | none=>rw [h9] at hz;simp at hz
   | some a=>rw [h9] at hz;exact ha a (aG h9) z hz
 split at h
 ·cases he:j0 x.op x.n ((x.args.map s.vals).getD 0 0) s with
  | over o s2=>rw [he] at h;cases h
  | go u s2=>rw [he] at h;injection h with h;rw [<-h];exact h0
 split at h
 ·split at h
  ·cases h
  injection h with h;rw [<-h];exact h0
 split at h
 ·injection h with h;rw [<-h];exact oP hc _
 split at h
 ·injection h with h;rw [<-h];exact h0
 split at h
 ·cases h
 injection h with h
 rw [<-h]
 refine aCV fun z hz => ?_
 rw [aZ] at hz
 obtain ⟨q,_,rfl⟩:=hz
 exact hv q
end Go.Proofs.YtgmhnepmkaonaaaGreat
