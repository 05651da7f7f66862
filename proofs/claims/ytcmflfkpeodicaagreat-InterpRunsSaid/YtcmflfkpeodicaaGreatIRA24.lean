/- Part 24. -/
import Derived.Test.YtcmflfkpeodicaaGreatIRA23
namespace Go.Proofs.YtcmflfkpeodicaaGreat
set_option linter.all false
open Go.RowKit
theorem Rise.le_iff {L:List Int} (h:Rise L) {i j:Nat} {x y:Int} (hi:L[i]? = some x) (hj:L[j]? = some y):x <= y ↔ i <= j:=by
 obtain ⟨hil,rfl⟩:=aE.1 hi
 obtain ⟨hjl,rfl⟩:=aE.1 hj
 have hp:=eE.1 h
 constructor
 ·intro h1
  by_cases h2:i <= j
  ·exact h2
  have:=hp j i hjl hil (by omega);omega
 intro h1
 rcases dC i j with h2 | h2
 ·have:=hp i j hil hjl h2;omega
 obtain rfl:i=j:=by omega
 exact Int.le_refl _
set_option maxHeartbeats 3200000 in
theorem aE4 {w:World} {rb:Nat} {ia:Option Addr} {n ic:Nat} {ids:List Int} {id:Int} {j:Nat} (hl:rb < w.heap.size) (hc:w.cell? ⟨rb,13,none⟩=some (.slice ia n ic)) (hi:Ints w (.slice ia n ic) ids) (hr:Rise ids) (hj:ids[j]? = some id) :
  Calls Tryz.prog 84 #[.pointer (some ⟨rb,0,none⟩),.int .i64 id] w fun e w'=>e = .returned (.int .i64 (j:Int))/\Below w.heap.size w w':=by
 obtain ⟨_,_,b,off,he,hic,him,hia,hix⟩:=hi.parts
 injection he with e1 e2 e3
 rw [<-e1, <-e2] at hia
 rw [<-e2] at hix hic
 rw [<-e3] at hic him
 have hjl:=(aE.1 hj).1
 rw [<-e2] at hjl
 obtain ⟨rfl,hbl⟩:=hia (by omega)
 have hn:n <= 17592186044416:=by rw [e2];exact hi.1.big
 have HIX:Hid (∀ m,m < n -> w.cell? ⟨b,off+m,none⟩=some (.int .i64 (ids.getD m 0))):=h! hix
 have HR:Hid (∀ m,m < n -> (ids.getD m 0 <= id ↔ m <= j)):=h! (fun m hm=>hr.le_iff (eX ids m (by rw [<-e2];exact hm)) hj)
 clear hi hr hix hia hj e1 e2 e3
 go_enter Tryz.func84,Tryz.ntmps84
 go_upto_region 1 with (fail)
 go_quiet (fail)
 --@Z
 go_wp2_with fail
 go_loopw [5,6] (fun fv tv wr => ∃ a c:Nat,fv = .int .i64 a/\tv = .int .i64 c/\a <= j/\j < c/\c <= n/\Below w.heap.size w wr) (fun fv tv _=>(intOf tv).toNat - (intOf fv).toNat)
 case atStart=>exact ⟨0,n,rfl,rfl,aP _,hjl,aF _,eK (Below.refl _ _) _⟩
 case round =>
  obtain ⟨a,c,rfl,rfl,haj,hjc,hcn,hb⟩:=hrel
  have HB:=h! hb
  by_cases hgt:1 < c - a
  ·obtain ⟨m,hm⟩ : ∃ m,m=(a+c) / 2:=⟨_,rfl⟩
   have hma:a < m:=by omega
   have hmc:m < c:=by omega
   have hquo:Int.tdiv ((a:Int)+(c:Int)) 2=(m:Int):=by rw [hm];exact_mod_cast rfl
   have kc:=(HB.out.cell (p:=⟨rb,13,none⟩) hl).trans hc
   have kx:=(HB.out.cell (p:=⟨b,off+m,none⟩) hbl).trans (HIX.out m (by omega))
   obtain ⟨y,hy⟩ : ∃ y,y=ids.getD m 0:=⟨_,rfl⟩
   rw [<-hy] at kx
   have hle:=HR.out m (by omega)
   rw [<-hy] at hle
   have hd1:decide (1 < (c:Int) - (a:Int))=true:=by simp;omega
   clear hm hy hb hgt
   --@A
   by_cases hyi:y <= id
   ·have hmj:=hle.1 hyi
    have hd2:decide (y <= id)=true:=by simpa using hyi
    clear hle hyi
    go_wp2
    go_roundw
    case rel=>exact ⟨m,c,rfl,rfl,hmj,hjc,hcn,HB.out⟩
    simp [intOf];omega
   have hmj:¬ m <= j:=fun h=>hyi (hle.2 h)
   have hd2:decide (y <= id)=false:=by simpa using hyi
   clear hle hyi
   go_wp2
   go_roundw
   case rel=>exact ⟨a,m,rfl,rfl,haj,by omega,by omega,HB.out⟩
   simp [intOf];omega
  obtain rfl:j=a:=by omega
  have hd1:decide (1 < (c:Int) - (j:Int))=false:=by simp;omega
  clear hb hgt
  go_wp2
  go_ret
  exact ⟨rfl,HB.out⟩
def iT (b:Bool):Int:=if b then 1 else 0
def shnI (b:Int):Nat:=(b % 64).toNat
def fH (op a b:Int):Int :=
 if op=3 then IntKind.i64.wrap (a+b) else if op=4 then IntKind.i64.wrap (a - b) else if op=5 then IntKind.i64.wrap (a * b)
 else if op=6 then bits .and .i64 a b else if op=7 then bits .or .i64 a b else if op=8 then bits .xor .i64 a b
 else if op=9 then IntKind.i64.wrap (a * 2 ^ shnI b) else if op=10 then IntKind.i64.wrap (IntKind.u64.wrap a / 2 ^ shnI b)
 else if op=11 then IntKind.i64.wrap (a.tdiv b) else if op=12 then a.tmod b
 else if op=13 then iT (a == b) else if op=14 then iT (decide (a < b)) else iT (decide (IntKind.u64.wrap a < IntKind.u64.wrap b))
def iC (op:Int):Nat:=if op=16 then 1 else if op=17 then 3 else 2
def lK (op:Int) (a:List Int):Int :=
 if op < 3 \/ 17 < op \/ a.length ≠ iC op then 0
 else if op=16 then iT (a.getD 0 0 == 0) else if op=17 then (if a.getD 0 0 ≠ 0 then a.getD 1 0 else a.getD 2 0)
 else if (op=11 \/ op=12)/\a.getD 1 0=0 then 0 else fH op (a.getD 0 0) (a.getD 1 0)
def nB (op:Int) (a:List Int):Int :=
 if op < 3 \/ 17 < op \/ a.length ≠ iC op then 1
 else if op=16 then 0 else if op=17 then 0
 else if (op=11 \/ op=12)/\a.getD 1 0=0 then 9 else 0
structure RunS where
 vals:Int -> Int
 cells:List Int
 arrays:List (List Int)
 out:List Int
 steps:Nat
 checks:Nat
 visits:List Nat
structure OverD where
 how:Int
 value:Int
 trap:Int
inductive Res (α : Type) where
 | go (a : α) (s:RunS)
 | over (o:OverD) (s:RunS)
def Res.bind {α β : Type} (r:Res α) (k : α -> RunS -> Res β):Res β := match r with | .go a s=>k a s | .over o s=>.over o s
def Res.st {α : Type}:Res α -> RunS | .go _ s=>s | .over _ s=>s
def setV (s:RunS) (id v:Int):RunS := { s with vals:=fun i=>if i=id then v else s.vals i }
def iL (fuel:Nat) (s:RunS):Res Unit:=if s.steps=fuel then .over ⟨3,0,0⟩ s else .go () { s with steps:=s.steps+1 }
def fY (op:Int) (s:RunS):RunS:=if op=19 \/ op=20 then { s with checks:=s.checks+1 } else s
def aA5 (op:Int):OverD:=if op=19 \/ op=20 then ⟨2,0, -2⟩ else ⟨5,0,0⟩
def mK (op:Int) (n i:Int) (s:RunS):Res Unit:=if i < 0 \/ ((s.arrays.getD n.toNat []).length:Int) <= i then .over (aA5 op) (fY op s) else .go () (fY op s)
def fA (x:InstrD) (s:RunS):Res Int :=
 if x.op=1 \/ x.op=2 then .go x.n s
 else if x.op=18 then .go ((s.arrays.getD x.n.toNat []).length) s
 else if x.op=19 \/ x.op=21 then (mK x.op x.n ((x.args.map s.vals).getD 0 0) s).bind fun _ s1=>.go ((s1.arrays.getD x.n.toNat []).getD ((x.args.map s.vals).getD 0 0).toNat 0) s1
 else if x.op=20 \/ x.op=22 then (mK x.op x.n ((x.args.map s.vals).getD 0 0) s).bind fun _ s1=>.go 0 { s1 with arrays:=s1.arrays.modify x.n.toNat fun a=>a.set ((x.args.map s.vals).getD 0 0).toNat ((x.args.map s.vals).getD 1 0) }
 else if x.op=23 then (if s.out.length=4096 then .over ⟨4,0,0⟩ s else .go 0 { s with out:=s.out ++ [(x.args.map s.vals).getD 0 0] })
 else if x.op=24 then .go (s.cells.getD x.n.toNat 0) s
 else if x.op=25 then .go 0 { s with cells:=s.cells.set x.n.toNat ((x.args.map s.vals).getD 0 0) }
 else if nB x.op (x.args.map s.vals) ≠ 0 then .over ⟨2,0, -1⟩ s else .go (lK x.op (x.args.map s.vals)) s
def putS (x:InstrD) (v:Int) (s:RunS):RunS:=if 0 <= x.id then setV s x.id v else s
def oneS (fuel:Nat) (x:InstrD) (s:RunS):Res Unit:=(iL fuel s).bind fun _ s1=>(fA x s1).bind fun v s2=>.go () (putS x v s2)
def gQ (fuel:Nat):List InstrD -> RunS -> Res Unit
 | [],s=>.go () s
 | x :: xs,s=>(oneS fuel x s).bind fun _ s1=>gQ fuel xs s1
theorem nS (fuel:Nat) (xs ys:List InstrD) (s:RunS):gQ fuel (xs ++ ys) s=(gQ fuel xs s).bind fun _ s1=>gQ fuel ys s1:=by
 induction xs generalizing s with
 | nil=>rfl
 | cons x xs ih =>
  simp only [List.cons_append,gQ]
  cases oneS fuel x s with
  | go a s1=>exact ih s1
  | over o s1=>rfl
theorem qC {fuel:Nat} {xs:List InstrD} {i:Nat} {x:InstrD} {s s1:RunS} (hx:xs[i]? = some x) (h:gQ fuel (xs.take i) s = .go () s1):gQ fuel (xs.take (i+1)) s=oneS fuel x s1:=by
 rw [bU,hx,Option.toList_some,nS,h]
 show (gQ fuel [x] s1)=_
 simp only [gQ]
 cases oneS fuel x s1 <;> rfl
theorem lX {fuel:Nat} {xs:List InstrD} {i:Nat} {s s1:RunS} {o:OverD} (h:gQ fuel (xs.take i) s = .over o s1):gQ fuel xs s = .over o s1:=by
 have:=nS fuel (xs.take i) (xs.drop i) s
 rw [cV,h] at this
 exact this
def phiV (src:Int) (s:RunS) (p:PhiD):Int:=s.vals (p.vals.getD (p.src.idxOf src) 0)
def mC (s:RunS) (pv:List (PhiD × Int)):RunS:=pv.foldl (fun s q=>setV s q.1.id q.2) s
def nC (b:BlockD) (src:Int) (s:RunS):RunS:=mC s (b.phis.map fun p=>(p,phiV src s p))
def endR (t:TermD) (s:RunS):Res Int :=
 if t.op=3 then .over ⟨1,s.vals t.val,0⟩ s
 else if t.op=4 then .over ⟨2,0,t.n⟩ s
 else if t.op=2 then .go (t.to.getD (1 - s.vals t.val).toNat 0) s
 else .go (t.to.getD 0 0) s
def kD (at_:Nat) (s:RunS):RunS := { s with visits:=s.visits.modify at_ (· + 1) }
def gP (f:FuncD) (fuel:Nat) (src:Int) (at_:Nat) (s:RunS):Res Int :=
 (gQ fuel (f.blocks.getD at_ default).code (nC (f.blocks.getD at_ default) src (kD at_ s))).bind fun _ s1=>(iL fuel s1).bind fun _ s2=>endR (f.blocks.getD at_ default).term s2
def runN (f:FuncD) (fuel:Nat):Nat -> Int -> Nat -> RunS -> Option (OverD × RunS)
 | 0,_,_,_=>none
 | n+1,src,at_,s=>match gP f fuel src at_ s with
  | .over o s1=>some (o,s1)
  | .go to s1=>runN f fuel n at_ to.toNat s1
theorem pC {f:FuncD} {fuel:Nat}:∀ {n m:Nat} {src:Int} {at_:Nat} {s:RunS} {r:OverD × RunS},runN f fuel n src at_ s=some r -> n <= m -> runN f fuel m src at_ s=some r
 | 0,_,_,_,_,_,h,_=>by simp [runN] at h
 | n+1,0,_,_,_,_,_,hm=>absurd hm (by omega)
 | n+1,m+1,src,at_,s,r,h,hm=>by
  unfold runN at h ⊢
  cases hb:gP f fuel src at_ s with
  | over o s1=>rw [hb] at h;exact h
  | go to s1=>rw [hb] at h;exact pC h (by omega)
def Runs (f:FuncD) (fuel:Nat) (src:Int) (at_:Nat) (s:RunS) (o:OverD) (s' : RunS):Prop := ∃ n,runN f fuel n src at_ s=some (o,s')
theorem Runs.one {f:FuncD} {fuel:Nat} {src:Int} {at_:Nat} {s s1 s2:RunS} {o o2:OverD} (h:Runs f fuel src at_ s o s1) (k:Runs f fuel src at_ s o2 s2):o=o2/\s1=s2:=by
 obtain ⟨n,h⟩:=h
 obtain ⟨m,k⟩:=k
 have h1:=pC h (Nat.le_max_left n m)
 have k1:=pC k (Nat.le_max_right n m)
 rw [h1] at k1
 injection k1 with e
 exact ⟨congrArg Prod.fst e,congrArg Prod.snd e⟩
theorem Runs.over {f:FuncD} {fuel:Nat} {src:Int} {at_:Nat} {s s1:RunS} {o:OverD} (h:gP f fuel src at_ s = .over o s1):Runs f fuel src at_ s o s1:=⟨1,by unfold runN;rw [h]⟩
theorem Runs.go {f:FuncD} {fuel:Nat} {src to:Int} {at_:Nat} {s s1 s2:RunS} {o:OverD} (h:gP f fuel src at_ s = .go to s1) (k:Runs f fuel at_ to.toNat s1 o s2):Runs f fuel src at_ s o s2:=by
 obtain ⟨n,k⟩:=k
 exact ⟨n+1,by unfold runN;rw [h];exact k⟩
structure InputD where
 args:List Int
 arrays:List (List Int)
def argI (f:FuncD) (args:List Int) (id:Int):Int :=
 if 0 <= id/\id < f.params.length/\id < args.length then (if f.params.getD id.toNat 0=2 then iT (decide (args.getD id.toNat 0 ≠ 0)) else args.getD id.toNat 0) else 0
def iI (f:FuncD) (i:InputD):RunS :=
 { vals:=argI f i.args,cells:=List.replicate f.cells.toNat 0,arrays:=(List.range f.arrays.toNat).map fun k=>(i.arrays.getD k []).take 4096,out:=[],steps:=0,checks:=0,visits:=List.replicate f.blocks.length 0 }
structure TraceD where
 how:Int
 value:Int
 trap:Int
 out:List Int
 arrays:List (List Int)
 steps:Int
 checks:Int
 visits:List Int
 deriving DecidableEq,Inhabited
def rB:TraceD:=⟨6,0,0,[],[],0,0,[]⟩
def qD (o:OverD) (s:RunS):TraceD:=⟨o.how,o.value,o.trap,s.out,s.arrays,s.steps,s.checks,s.visits.map fun n:Nat=>(n:Int)⟩
structure Placed (tos:Nat -> List Nat) (pl:Nat -> Nat):Prop where
 zero:pl 0=0
 inj:∀ {a b:Nat},Way tos (-1) a -> Way tos (-1) b -> pl a=pl b -> a=b
 ahead:∀ {b:Nat},Way tos (-1) b -> b ≠ 0 -> ∃ p,Way tos (-1) p/\b ∈ tos p/\pl p < pl b
inductive Anc (I:Nat -> Option Nat) (a:Nat):Nat -> Prop
 | refl:Anc I a a
 | up {p v:Nat}:I v=some p -> Anc I a p -> Anc I a v
def Proc (I:Nat -> Option Nat) (v:Nat):Prop:=v=0 \/ (I v).isSome=true
structure Tree (tos:Nat -> List Nat) (pl:Nat -> Nat) (I:Nat -> Option Nat):Prop where
 root:I 0=none
 par:∀ {v p:Nat},I v=some p -> Way tos (-1) v/\Way tos (-1) p/\pl p < pl v/\Proc I p
inductive Av (tos:Nat -> List Nat) (pl:Nat -> Nat) (a:Nat):Nat -> Nat -> Prop
 | zero (k:Nat):a ≠ 0 -> Av tos pl a k 0
 | fwd {k p v:Nat}:Av tos pl a k p -> v ∈ tos p -> pl p < pl v -> v ≠ a -> Av tos pl a k v
 | back {k p v:Nat}:Av tos pl a k p -> v ∈ tos p -> v ≠ a -> Av tos pl a (k+1) v
section
variable {tos:Nat -> List Nat} {pl:Nat -> Nat} {I:Nat -> Option Nat}
theorem Way.base {g:Int} {v:Nat} (h:Way tos g v):Way tos (-1) v:=by
 induction h with
 | zero _=>exact .zero (by decide)
 | step _ ht _ ih=>exact .step ih ht (by omega)
theorem Way.ne {a v:Nat} (h:Way tos (a:Int) v):v ≠ a:=by
 cases h with
 | zero h=>omega
 | step _ _ h=>omega
theorem Anc.trans {a b c:Nat} (h:Anc I a b) (k:Anc I b c):Anc I a c:=by
 induction k with
 | refl=>exact h
 | up e _ ih=>exact .up e ih
theorem Anc.parts {a v:Nat} (h:Anc I a v):a=v \/ ∃ p,I v=some p/\Anc I a p:=by
 cases h with
 | refl=>exact .inl rfl
 | up e h=>exact .inr ⟨_,e,h⟩
theorem Anc.le (hT:Tree tos pl I) {a v:Nat} (h:Anc I a v):a=v \/ pl a < pl v:=by
 induction h with
 | refl=>exact .inl rfl
 | up e _ ih =>
  have:=(hT.par e).2.2.1
  rcases ih with rfl | h
  ·exact .inr this
  exact .inr (by omega)
theorem Anc.le' (hT:Tree tos pl I) {a v:Nat} (h:Anc I a v):pl a <= pl v:=by
 rcases h.le hT with rfl | h <;> omega
theorem Anc.line (hT:Tree tos pl I) {a b v:Nat} (h:Anc I b v) (k:Anc I a v) (hl:pl a <= pl b):Anc I a b:=by
 induction h with
 | refl=>exact k
 | up e h ih =>
  rcases k.parts with rfl | ⟨q,e',k'⟩
  ·have:=h.le' hT
   have:=(hT.par e).2.2.1
   omega
  rw [e] at e';cases e'
  exact ih k'
theorem Tree.proc_way (hT:Tree tos pl I) {v:Nat} (h:Proc I v):Way tos (-1) v:=by
 rcases h with rfl | h
 ·exact .zero (by decide)
 obtain ⟨p,hp⟩:=eH.1 h
 exact (hT.par hp).1
theorem Tree.procs (hT:Tree tos pl I) {a v:Nat} (h:Anc I a v) (hv:Proc I v):Proc I a:=by
 induction h with
 | refl=>exact hv
 | up e _ ih=>exact ih (hT.par e).2.2.2
theorem Tree.anc_zero (hT:Tree tos pl I) {a:Nat} (h:Anc I a 0):a=0:=by
 rcases h.parts with h | ⟨p,e,_⟩
 ·exact h
 rw [hT.root] at e;cases e
theorem Tree.meets (hT:Tree tos pl I) (hz:pl 0=0) {x y:Nat} (hx:Proc I x) (hl:pl y < pl x):∃ p,I x=some p/\Proc I p/\pl p < pl x /\ ∀ c,(Anc I c p/\Anc I c y) ↔ (Anc I c x/\Anc I c y):=by
 rcases hx with rfl | h
 ·omega
 obtain ⟨p,hp⟩:=eH.1 h
 obtain ⟨h1,h2,h3,h4⟩:=hT.par hp
 refine ⟨p,hp,h4,h3,fun c=>⟨fun ⟨u,w⟩=>⟨.up hp u,w⟩,fun ⟨u,w⟩=>⟨?_,w⟩⟩⟩
 rcases u.parts with rfl | ⟨q,e,u'⟩
 ·have:=w.le' hT;omega
 rw [hp] at e;cases e;exact u'
theorem Av.ne {a k v:Nat} (h:Av tos pl a k v):v ≠ a:=by
 cases h with
 | zero _ h=>exact Ne.symm h
 | fwd _ _ _ h=>exact h
 | back _ _ h=>exact h
theorem Av.mono {a k v:Nat} (h:Av tos pl a k v):Av tos pl a (k+1) v:=by
 induction h with
 | zero k h=>exact .zero _ h
 | fwd _ h1 h2 h3 ih=>exact .fwd ih h1 h2 h3
 | back _ h1 h2 ih=>exact .back ih h1 h2
theorem Av.more {a k m v : Nat} (h : Av tos pl a k v) (hk : k ≤ m) : Av tos pl a m v := by
  induction m with
  | zero => obtain rfl : k = 0 := by omega
            exact h
  | succ m ih =>
    by_cases e : k = m + 1
    · subst e; exact h
    · exact (ih (by omega)).mono
theorem Av.way {a k v:Nat} (h:Av tos pl a k v):Way tos (a:Int) v:=by
 induction h with
 | zero k h=>exact .zero (by omega)
 | fwd _ h1 _ h3 ih=>exact .step ih h1 (by omega)
 | back _ h1 h3 ih=>exact .step ih h1 (by omega)
theorem Way.av {a v:Nat} (h:Way tos (a:Int) v):∃ k,Av tos pl a k v:=by
 induction h with
 | zero h=>exact ⟨0,.zero 0 (by omega)⟩
 | step _ h1 h2 ih=>obtain ⟨k,ih⟩:=ih;exact ⟨k+1,.back ih h1 (by omega)⟩
theorem Av.through {c b j v:Nat} (h:Av tos pl c j v):Av tos pl b j v \/ Av tos pl c j b:=by
 induction h with
 | zero k h =>
  by_cases e:b=0
  ·subst e;exact .inr (.zero _ h)
  exact .inl (.zero _ e)
 | @fwd k p v h h1 h2 h3 ih =>
  by_cases e:v=b
  ·subst e;exact .inr (.fwd h h1 h2 h3)
  rcases ih with ih | ih
  ·exact .inl (.fwd ih h1 h2 e)
  exact .inr ih
 | @back k p v h h1 h3 ih =>
  by_cases e:v=b
  ·subst e;exact .inr (.back h h1 h3)
  rcases ih with ih | ih
  ·exact .inl (.back ih h1 e)
  exact .inr ih.mono
theorem vM (n:Nat) (f:Nat -> Nat):∃ K, ∀ i,i < n -> f i <= K:=by
 induction n with
 | zero=>exact ⟨0,fun i h=>by omega⟩
 | succ n ih =>
  obtain ⟨K,hK⟩:=ih
  refine ⟨K+f n,fun i h => ?_⟩
  by_cases e:i=n
  ·subst e;omega
  have:=hK i (by omega);omega
theorem aCQ (tos:Nat -> List Nat) (pl:Nat -> Nat) (n:Nat):∃ K, ∀ a v:Nat,a < n -> v < n -> Way tos (a:Int) v -> Av tos pl a K v:=by
 have h1:∀ a v:Nat, ∃ k,Way tos (a:Int) v -> Av tos pl a k v:=fun a v=>by
  by_cases h:Way tos (a:Int) v
  ·obtain ⟨k,hk⟩:=h.av (pl:=pl);exact ⟨k,fun _=>hk⟩
  exact ⟨0,fun h2=>absurd h2 h⟩
 let f:Nat -> Nat -> Nat:=fun a v=>(h1 a v).choose
 have hf:∀ a v:Nat,Way tos (a:Int) v -> Av tos pl a (f a v) v:=fun a v=>(h1 a v).choose_spec
 have h2:∀ a:Nat, ∃ K, ∀ v,v < n -> f a v <= K:=fun a=>vM n (f a)
 obtain ⟨K,hK⟩:=vM n fun a=>(h2 a).choose
 exact ⟨K,fun a v ha hv hw=>(hf a v hw).more (aJ ((h2 a).choose_spec v hv) (hK a ha))⟩
structure Run (tos:Nat -> List Nat) (pl:Nat -> Nat) (I:Nat -> Option Nat) (k i:Nat):Prop where
 tree:Tree tos pl I
 proc:∀ {v:Nat},Way tos (-1) v -> (pl v < i \/ 0 < k) -> Proc I v
 first:k=0 -> ∀ {v:Nat},Proc I v -> pl v < i
 dom:∀ {v c:Nat},Proc I v -> ¬ Way tos (c:Int) v -> Anc I c v
 rr:∀ {v c j:Nat},Proc I v -> Anc I c v -> (j < k \/ (j=k/\pl v < i)) -> ¬ Av tos pl c j v
theorem Run.start (hP:Placed tos pl):Run tos pl (fun _=>none) 0 1:=by
 refine ⟨⟨rfl,fun h=>by cases h⟩,fun {v} hv h => ?_,fun _ {v} h => ?_,fun {v c} h hd => ?_,fun {v c j} h ha _ => ?_⟩
 ·left
  exact hP.inj hv (.zero (by decide)) (by rw [hP.zero];omega)
 ·rcases h with rfl | h
  ·rw [hP.zero];omega
  cases h
 ·rcases h with rfl | h
  ·by_cases e:c=0
   ·subst e;exact .refl
   exact absurd (.zero (by omega)) hd
  cases h
 rcases ha.parts with rfl | ⟨p,e,_⟩
 ·exact fun h=>h.ne rfl
 cases e
theorem Run.next (hP:Placed tos pl) {k i:Nat} (h:Run tos pl I k i) (hi:∀ v,Way tos (-1) v -> pl v < i):Run tos pl I (k+1) 1:=by
 refine ⟨h.tree,fun {v} hv _=>h.proc hv (.inl (hi v hv)),fun e=>by omega,fun hv hd=>h.dom hv hd,fun {v c j} hv ha hj => ?_⟩
 rcases hj with hj | ⟨rfl,hj⟩
 ·have hw:=hi v (h.tree.proc_way hv)
  exact h.rr hv ha (by omega)
 obtain rfl:v=0:=hP.inj (h.tree.proc_way hv) (.zero (by decide)) (by rw [hP.zero];omega)
 have:=h.tree.anc_zero ha
 subst this
 exact fun h=>h.ne rfl
def upd' (I:Nat -> Option Nat) (b m:Nat):Nat -> Option Nat:=fun v=>if v=b then some m else I v
theorem nT (I:Nat -> Option Nat) (b m:Nat):upd' I b m b=some m:=if_pos rfl
theorem nD (I:Nat -> Option Nat) {b v:Nat} (m:Nat) (h:v ≠ b):upd' I b m v=I v:=if_neg h
theorem aA6 {I:Nat -> Option Nat} {b m:Nat} (h:I b=some m):upd' I b m=I:=by
 funext v;unfold upd';split
 ·rename_i e;rw [e,h]
 rfl
def lL (tos:Nat -> List Nat) (I:Nat -> Option Nat) (b m:Nat):Prop:=Proc I m /\ ∀ c,Anc I c m ↔ ∀ p,b ∈ tos p -> Way tos (-1) p -> Proc I p -> Anc I c p
theorem vN {b m c v:Nat} (h:Anc I c v) (hb:¬ Anc I b v):Anc (upd' I b m) c v:=by
 induction h with
 | refl=>exact .refl
 | @up p v e h ih =>
  have hv:v ≠ b:=fun e3=>hb (e3 ▸ .refl)
  exact .up (by rw [nD I m hv];exact e) (ih fun h2=>hb (.up e h2))
theorem sP {b m c v:Nat} (h:Anc (upd' I b m) c v) (hb:¬ Anc I b v):Anc I c v:=by
 induction h with
 | refl=>exact .refl
 | @up p v e h ih =>
  have hv:v ≠ b:=fun e3=>hb (e3 ▸ .refl)
  rw [nD I m hv] at e
  exact .up e (ih fun h2=>hb (.up e h2))
theorem uE {b m c v:Nat} (h:Anc I c v) (hb:Anc I b c):Anc (upd' I b m) c v \/ Anc I c b:=by
 induction h with
 | refl=>exact .inl .refl
 | @up p v e h ih =>
  by_cases hv:v=b
  ·subst hv;exact .inr (.up e h)
  rcases ih with ih | ih
  ·exact .inl (.up (by rw [nD I m hv];exact e) ih)
  exact .inr ih
theorem Run.step (hP:Placed tos pl) {k b m:Nat} (h:Run tos pl I k (pl b)) (hb:Way tos (-1) b) (hb0:b ≠ 0) (hm:lL tos I b m):Run tos pl (upd' I b m) k (pl b+1):=by
 have hT:=h.tree
 obtain ⟨hmP,hm⟩:=hm
 obtain ⟨p0,hp1,hp2,hp3⟩:=hP.ahead hb hb0
 have hp4:Proc I p0:=h.proc hp1 (.inl hp3)
 have hml:pl m < pl b:=by
  have:=((hm m).1 .refl p0 hp2 hp1 hp4).le' hT
  omega
 have hmb:¬ Anc I b m:=fun hh=>by have:=hh.le' hT;omega
 -- the new ancestors of b
 have hbn:∀ c,Anc (upd' I b m) c b ↔ c=b \/ Anc I c m:=fun c=>by
  constructor
  ·intro hh
   rcases hh.parts with e | ⟨q,e,hq⟩
   ·exact .inl e
   rw [nT] at e;cases e
   exact .inr (sP hq hmb)
  rintro (rfl | hh)
  ·exact .refl
  exact .up (nT I b m) (vN hh hmb)
 have hbd:∀ v,Anc I b v -> Anc (upd' I b m) b v:=fun v hv=>by
  rcases uE (m:=m) hv .refl with h1 | h1
  ·exact h1
  exact uE hv .refl |>.elim id fun _=>by
   clear h1
   induction hv with
   | refl=>exact .refl
   | @up p v e h ih =>
    by_cases e2:v=b
    ·subst e2;exact .refl
    exact .up (by rw [nD I m e2];exact e) ih
 -- the new ancestors of what has b above it
 have hvn:∀ c v,Anc I b v -> Anc (upd' I b m) c v -> (Anc I c v/\Anc I b c) \/ Anc (upd' I b m) c b:=fun c v hv hh=>by
  induction hh with
  | refl=>exact .inl ⟨.refl,hv⟩
  | @up p v e hq ih =>
   by_cases e2:v=b
   ·subst e2;exact .inr (.up e hq)
   rw [nD I m e2] at e
   rcases hv.parts with e3 | ⟨q,e3,hq3⟩
   ·exact absurd e3.symm e2
   rw [e] at e3;cases e3
   rcases ih hq3 with ⟨h1,h2⟩ | h1
   ·exact .inl ⟨.up e h1,h2⟩
   exact .inr h1
 have hproc:∀ {v:Nat},Proc I v -> Proc (upd' I b m) v:=fun {v} hv=>by
  rcases hv with rfl | hv
  ·exact .inl rfl
  right;unfold upd';split
  ·rfl
  exact hv
 have hproc' : ∀ {v:Nat},Proc (upd' I b m) v -> v=b \/ Proc I v:=fun {v} hv=>by
  by_cases e:v=b
  ·exact .inl e
  right
  rcases hv with rfl | hv
  ·exact .inl rfl
  right;rwa [nD I m e] at hv
 have hmw:=hT.proc_way hmP
 have hT' : Tree tos pl (upd' I b m):=by
  refine ⟨by rw [nD I m (Ne.symm hb0)];exact hT.root,fun {v p} e => ?_⟩
  by_cases e2:v=b
  ·subst e2;rw [nT] at e;cases e
   exact ⟨hb,hmw,hml,hproc hmP⟩
  rw [nD I m e2] at e
  obtain ⟨h1,h2,h3,h4⟩:=hT.par e
  exact ⟨h1,h2,h3,hproc h4⟩
 -- the paths to b
 have hrb:∀ {c j:Nat},Anc (upd' I b m) c b -> j <= k -> ¬ Av tos pl c j b:=fun {c j} hc hj hav=>by
  rcases (hbn c).1 hc with rfl | hc
  ·exact hav.ne rfl
  have hc':=(hm c).1 hc
  cases hav with
  | zero _ _=>exact hb0 rfl
  | @fwd _ p _ h1 h2 h3 h4 =>
   have hw:=h1.way.base
   have hpp:=h.proc hw (.inl h3)
   exact h.rr hpp (hc' p h2 hw hpp) (by omega) h1
  | @back j p _ h1 h2 h4 =>
   have hw:=h1.way.base
   have hpp:=h.proc hw (.inr (by omega))
   exact h.rr hpp (hc' p h2 hw hpp) (by omega) h1
 have hdb:∀ {c:Nat}, ¬ Way tos (c:Int) b -> Anc (upd' I b m) c b:=fun {c} hd=>by
  rw [hbn]
  by_cases e:c=b
  ·exact .inl e
  right
  rw [hm]
  intro p hp hw hpp
  exact h.dom hpp fun hh=>hd (.step hh hp (by omega))
 refine ⟨hT',fun {v} hv hi => ?_,fun e {v} hv => ?_,fun {v c} hv hd => ?_,fun {v c j} hv ha hj => ?_⟩
 ·by_cases e:v=b
  ·subst e;right;rw [nT];rfl
  refine hproc (h.proc hv ?_)
  rcases hi with hi | hi
  ·left
   have:pl v ≠ pl b:=fun e2=>e (hP.inj hv hb e2)
   omega
  exact .inr hi
 ·rcases hproc' hv with rfl | hv
  ·omega
  have:=h.first e hv;omega
 ·rcases hproc' hv with rfl | hv'
  ·exact hdb hd
  by_cases hbv:Anc I b v
  ·have hcv:=h.dom hv' hd
   by_cases hl:pl b <= pl c
   ·rcases uE (m:=m) hcv (hcv.line hT hbv hl) with h1 | h1
    ·exact h1
    -- c above b,and not ahead of it: it is b
    rcases h1.le hT with e | h2
    ·subst e;exact hbd v hbv
    omega
   by_cases e:v=b
   ·subst e;exact hdb hd
   -- every way to b has c
   have hvl:pl b < pl v:=by rcases hbv.le hT with e2 | h2;exact absurd e2.symm e;exact h2
   have hk:0 < k:=Nat.pos_of_ne_zero fun e2=>by have:=h.first e2 hv';omega
   have hno:=h.rr hv' hbv (j:=0) (.inl hk)
   have hdc:¬ Way tos (c:Int) b:=fun hcb=>by
    have low:∀ (n u:Nat),pl u <= n -> Way tos (-1) u -> pl u < pl b -> Av tos pl b 0 u:=by
     intro n
     induction n with
     | zero =>
      intro u hn hu hl2
      have:u=0:=hP.inj hu (.zero (by decide)) (by rw [hP.zero];omega)
      subst this;exact .zero _ hb0
     | succ n ih =>
      intro u hn hu hl2
      by_cases e0:u=0
      ·subst e0;exact .zero _ hb0
      obtain ⟨q,q1,q2,q3⟩:=hP.ahead hu e0
      exact .fwd (ih q (by omega) q1 (by omega)) q2 q3 (fun e1=>by subst e1;omega)
    have high:∀ (n u:Nat),pl u <= n -> Way tos (-1) u -> pl b <= pl u -> Av tos pl b 0 u \/ Way tos (c:Int) u:=by
     intro n
     induction n with
     | zero =>
      intro u hn hu hl2
      have:u=b:=hP.inj hu hb (by omega)
      subst this;exact .inr hcb
     | succ n ih =>
      intro u hn hu hl2
      by_cases e1:u=b
      ·subst e1;exact .inr hcb
      by_cases e0:u=0
      ·subst e0;exact .inl (.zero _ hb0)
      obtain ⟨q,q1,q2,q3⟩:=hP.ahead hu e0
      by_cases hq:pl b <= pl q
      ·rcases ih q (by omega) q1 hq with h1 | h1
       ·exact .inl (.fwd h1 q2 q3 e1)
       exact .inr (.step h1 q2 (fun e2=>by
        have:u=c:=by omega
        subst this;omega))
      exact .inl (.fwd (low _ q (aF _) q1 (by omega)) q2 q3 e1)
    rcases high _ v (aF _) (hT.proc_way hv') (by omega) with h1 | h1
    ·exact hno h1
    exact hd h1
   exact (hdb hdc).trans (hbd v hbv)
  exact vN (h.dom hv' hd) hbv
 by_cases e:v=b
 ·subst e
  exact hrb ha (by omega)
 have hv':=(hproc' hv).resolve_left e
 have hne:pl v ≠ pl b:=fun e2=>e (hP.inj (hT.proc_way hv') hb e2)
 by_cases hbv:Anc I b v
 ·have hvl:pl b < pl v:=by rcases hbv.le hT with e2 | h2;exact absurd e2.symm e;exact h2
  have hjk:j < k:=by omega
  rcases hvn c v hbv ha with ⟨h1,_⟩ | h1
  ·exact h.rr hv' h1 (.inl hjk)
  intro hav
  rcases hav.through (b:=b) with h2 | h2
  ·exact h.rr hv' hbv (.inl hjk) h2
  exact hrb h1 (by omega) h2
 exact h.rr hv' (sP ha hbv) (by omega)
theorem Run.fixed {k i:Nat} (h:Run tos pl I k i) (hall:∀ {v:Nat},Way tos (-1) v -> Proc I v) (hfix:∀ {b:Nat},Way tos (-1) b -> b ≠ 0 -> ∃ m,I b=some m/\lL tos I b m) {c v:Nat} (hv:Way tos (-1) v) :
  Anc I c v ↔ ¬ Way tos (c:Int) v:=by
 refine ⟨fun ha hw => ?_,h.dom (hall hv)⟩
 clear hv
 induction hw with
 | zero hc =>
  have:=h.tree.anc_zero ha;subst this;exact hc rfl
 | @step b t hb ht hne ih =>
  have hbw:=hb.base
  have htw:Way tos (-1) t:=.step hbw ht (by omega)
  rcases ha.parts with e | ⟨q,e,hq⟩
  ·exact hne (by omega)
  have ht0:t ≠ 0:=fun e0=>by subst e0;rw [h.tree.root] at e;cases e
  obtain ⟨m,e2,_,hm⟩:=hfix htw ht0
  rw [e] at e2;cases e2
  exact ih ((hm c).1 hq b ht hbw (hall hbw))
theorem Run.settled {k i K n:Nat} (h:Run tos pl I k i) (hn:∀ {v:Nat},Way tos (-1) v -> v < n) (hK:∀ a v:Nat,a < n -> v < n -> Way tos (a:Int) v -> Av tos pl a K v) (hk:K < k) {c v:Nat} (hv:Way tos (-1) v) :
  Anc I c v ↔ ¬ Way tos (c:Int) v:=by
 have hp:=h.proc hv (.inr (by omega))
 refine ⟨fun ha hw => ?_,h.dom hp⟩
 have hc:=hn (h.tree.proc_way (h.tree.procs ha hp))
 exact h.rr hp ha (.inl hk) (hK c v hc (hn hv) hw)
theorem Run.same (hP:Placed tos pl) {k K n b m:Nat} (h:Run tos pl I k (pl b)) (hn:∀ {v:Nat},Way tos (-1) v -> v < n) (hK:∀ a v:Nat,a < n -> v < n -> Way tos (a:Int) v -> Av tos pl a K v) (hk:K < k) (hb:Way tos (-1) b) (hb0:b ≠ 0) (hm:lL tos I b m) :
  I b=some m:=by
 have h':=h.step hP hb hb0 hm
 have e1:=fun c=>h.settled (c:=c) hn hK hk hb
 have e2:=fun c=>h'.settled (c:=c) hn hK hk hb
 have e3:∀ c,Anc (upd' I b m) c b ↔ Anc I c b:=fun c=>(e2 c).trans (e1 c).symm
 rcases h.proc hb (.inr (by omega)) with e | hs
 ·exact absurd e hb0
 ·obtain ⟨p,hp⟩:=eH.1 hs
  have hmb:m ≠ b:=fun e=>by have:=(h'.tree.par (nT I b m)).2.2.1;subst e;omega
  have hpb:p ≠ b:=fun e=>by have:=(h.tree.par hp).2.2.1;subst e;omega
  have h1:Anc I m p:=by
   rcases ((e3 m).1 (.up (nT I b m) .refl)).parts with e | ⟨q,e,hq⟩
   ·exact absurd e hmb
   rw [hp] at e;cases e;exact hq
  have h2:Anc (upd' I b m) p m:=by
   rcases ((e3 p).2 (.up hp .refl)).parts with e | ⟨q,e,hq⟩
   ·exact absurd e hpb
   rw [nT] at e;cases e;exact hq
  have l1:=h1.le' h.tree
  have l2:=h2.le' h'.tree
  have:m=p:=hP.inj (h.tree.proc_way hm.1) (h.tree.par hp).2.1 (by omega)
  rw [hp,this]
end
end Go.Proofs.YtcmflfkpeodicaaGreat
