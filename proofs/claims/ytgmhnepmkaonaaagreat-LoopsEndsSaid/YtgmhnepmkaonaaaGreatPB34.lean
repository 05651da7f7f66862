/- What the claim needs,part 34. -/
import Derived.OwnWalk
import Derived.Test.YtgmhnepmkaonaaaGreatPB26
import Derived.Test.YtgmhnepmkaonaaaGreatPB30
import Derived.Test.YtgmhnepmkaonaaaGreatPB33
import Derived.Test.YtgmhnepmkaonaaaGreatPB16
import Derived.Test.YtgmhnepmkaonaaaGreatPB6
import Derived.Laws.Shifts
import Derived.Laws.EntriesVeiled
namespace Go.Proofs.YtgmhnepmkaonaaaGreat
set_option linter.unusedSimpArgs false
set_option linter.unusedVariables false
open Go.RowKit
theorem least_one {P:Nat -> Prop} {c d:Nat} (h1:P c) (h2:∀ i,i < c -> ¬ P i) (k1:P d) (k2:∀ i,i < d -> ¬ P i):c=d:=by
 rcases Nat.lt_trichotomy c d with h | h | h
 ·exact absurd h1 (k2 c h)
 ·exact h
 ·exact absurd k1 (h2 d h)
theorem fault_one {f:FuncD} {b k b' k' : Int} (h:FaultR f b k) (h' : FaultR f b' k'):b=b' /\ k=k':=by
 rcases h with ⟨c,hc,hn,hl,rfl,rfl⟩ | ⟨hall,h⟩
 ·rcases h' with ⟨c',hc',hn',hl',rfl,rfl⟩ | ⟨hall', -⟩
  ·have:=least_one (P:=fun c => ¬ Way (toB f) (-1) c) hn (fun i hi h=>h (hl i hi)) hn' (fun i hi h=>h (hl' i hi))
   subst this
   exact ⟨rfl,rfl⟩
  ·exact absurd (hall' c hc) hn
 ·rcases h' with ⟨c',hc',hn',hl',rfl,rfl⟩ | ⟨hall',h'⟩
  ·exact absurd (hall c' hc') hn'
  ·rcases h with ⟨c,x,hx,hn,hl,rfl,rfl⟩ | ⟨hp,h⟩
   ·rcases h' with ⟨c',x',hx',hn',hl',rfl,rfl⟩ | ⟨hp', -⟩
    ·have:=least_one (P:=fun c => ∃ x,f.blocks[c]? = some x/\x.phis.all (phiFits (natI (predN f f.blocks.length 0 c)))=false) ⟨x,hx,hn⟩ (fun i hi ⟨y,hy,h⟩=>by rw [hl i y hi hy] at h;cases h) ⟨x',hx',hn'⟩ (fun i hi ⟨y,hy,h⟩=>by rw [hl' i y hi hy] at h;cases h)
     subst this
     exact ⟨rfl,rfl⟩
    ·have:=hp' c x hx
     rw [hn] at this;cases this
   ·rcases h' with ⟨c',x',hx',hn',hl',rfl,rfl⟩ | ⟨hp',h'⟩
    ·have:=hp c' x' hx'
     rw [hn'] at this;cases this
    ·rcases h with ⟨i,u,hu,hn,hl,rfl,rfl⟩ | ⟨ha,rfl,rfl⟩
     ·rcases h' with ⟨i',u',hu',hn',hl',rfl,rfl⟩ | ⟨ha',rfl,rfl⟩
      ·have:=least_one (P:=fun i => ∃ u,(uxF f)[i]? = some u /\ ¬ UseOk f u) ⟨u,hu,hn⟩ (fun j hj ⟨y,hy,h⟩=>h (hl y (List.mem_of_getElem? (i:=j) (by rw [List.getElem?_take,if_pos hj];exact hy)))) ⟨u',hu',hn'⟩ (fun j hj ⟨y,hy,h⟩=>h (hl' y (List.mem_of_getElem? (i:=j) (by rw [List.getElem?_take,if_pos hj];exact hy))))
       subst this
       rw [hu] at hu'
       cases hu'
       exact ⟨rfl,rfl⟩
      ·exact absurd (ha' u (List.mem_of_getElem? hu)) hn
     ·rcases h' with ⟨i',u',hu',hn',hl',rfl,rfl⟩ | ⟨ha',rfl,rfl⟩
      ·exact absurd (ha u' (List.mem_of_getElem? hu')) hn'
      ·exact ⟨rfl,rfl⟩
end Go.Proofs.YtgmhnepmkaonaaaGreat
namespace Go.Proofs.YtgmhnepmkaonaaaGreat
set_option linter.unusedSimpArgs false
set_option linter.unusedVariables false
open Go.RowKit
theorem LoopV.one {W:World} {cs:List Value} {l:LoopD} (h:LoopV W cs l):∀ u ∈ cs,u.oneCell' = true:=by
 obtain ⟨a1,a2,a3,c1,c2,c3,rfl, -⟩:=h
 intro u hu
 simp at hu
 rcases hu with rfl | rfl | rfl | rfl | rfl <;> rfl
theorem heads_le (f:FuncD):(loopsF f).length <= f.blocks.length:=by
 rw [loopsF_len]
 unfold headsN
 exact Nat.le_trans (List.length_filter_le _ _) (by rw [List.length_range];exact Nat.le_refl _)
def ErrK (f:FuncD) (k:Int):Prop:=(checkF f ≠ 0/\k=checkF f) \/ (checkF f=0 /\ ∃ b,FaultR f b k)
def ForR (f : FuncD) (w : World) (e : Ending) (w' : World) : Prop := Below w.heap.size w w' ∧
  ((¬ (checkF f = 0 ∧ FaultR f 0 0) ∧ ∃ k : Int, (k ≠ 0 ∧ ErrK f k) ∧ e = .returned (.tuple #[.slice none 0 0, .int .i64 k])) ∨
   (checkF f = 0 ∧ FaultR f 0 0 ∧ ∃ (a : Option Addr) (c : Nat) (O : List Nat), e = .returned (.tuple #[.slice a (loopsF f).length c, .int .i64 0]) ∧ IsOrder f O ∧ LoopsV w' (.slice a (loopsF f).length c) (loopsF f)))
set_option maxHeartbeats 3200000 in
theorem loopsForest {w:World} {v:Value} {f:FuncD} (hv:FuncV w v f):Calls Tryz.prog 30 #[v] w (ForR f w):=by
 have HV:=Lib.hid hv
 obtain ⟨ap,cp,ab,cb,rfl, -, -, -,hbk⟩:=hv.form
 clear hv hbk
 go_enter Tryz.func30,Tryz.ntmps30
 go_upto_region 1 with (fail)
 have B1:Hid (Box (w.alloc (.cells #[.slice ap f.params.length cp,.int .i64 f.arrays,.int .i64 f.cells,.slice ab f.blocks.length cb] 25)) (w.heap.size) #[.slice ap f.params.length cp,.int .i64 f.arrays,.int .i64 f.cells,.slice ab f.blocks.length cb]):=Lib.hid (by simpa using (Box.new w #[.slice ap f.params.length cp,.int .i64 f.arrays,.int .i64 f.cells,.slice ab f.blocks.length cb] 25))
 have HW:Hid (Below w.heap.size w (w.alloc (.cells #[.slice ap f.params.length cp,.int .i64 f.arrays,.int .i64 f.cells,.slice ab f.blocks.length cb] 25))):=Lib.hid ((Below.refl _ _).alloc (Nat.le_refl _) _)
 generalize (w.alloc (.cells #[.slice ap f.params.length cp,.int .i64 f.arrays,.int .i64 f.cells,.slice ab f.blocks.length cb] 25))=wv at *
 obtain ⟨lB1,cB1,fB1⟩:=B1.out
 go_wp2_with fail
 refine (loopsOpen (HV.out.below HW.out)).mono ?_
 rintro e w2 ⟨hb,⟨hc0,rfl⟩ | ⟨hc0,b,k,hF,hk,rfl⟩ | ⟨hc0,hF,bn,bs,bt,bg,lg,lcap,A1,A2,ap2,ab2,np,cp2,cb2,ar,ce,g,pv,ov,lv,O,I,a,c,S,rfl,hO,hD,hN,hT,hL,hS⟩⟩
 ·have hq:(checkF f != 0)=true:=by simpa using hc0
  have HC:=Lib.hid hc0
  obtain ⟨c0,hc⟩ : ∃ c0,c0=checkF f:=⟨_,rfl⟩
  rw [<-hc] at hq ⊢
  have HCC:=Lib.hid hc
  clear hc0 hc
  clear lB1 cB1 fB1
  replace B1:=Lib.hid (B1.out.later hb)
  replace HW:=Lib.hid (HW.out.trans (hb.mono HW.out.size))
  clear hb
  obtain ⟨lB1,cB1,fB1⟩:=B1.out
  go_wp2
  go_ret2
  exact ⟨HW.out,.inl ⟨fun h=>HC.out h.1,c0,⟨by rw [HCC.out];exact HC.out,.inl ⟨HC.out,HCC.out⟩⟩,rfl⟩⟩
 ·have hq:(k != 0)=true:=by simpa using hk
  have HC:Hid (¬ FaultR f 0 0/\k ≠ 0):=Lib.hid ⟨fun h=>hk (fault_one hF h).2,hk⟩
  have HK:Hid (ErrK f k):=Lib.hid (.inr ⟨hc0,b,hF⟩)
  clear hc0 hF hk
  clear lB1 cB1 fB1
  replace B1:=Lib.hid (B1.out.later hb)
  replace HW:=Lib.hid (HW.out.trans (hb.mono HW.out.size))
  clear hb
  obtain ⟨lB1,cB1,fB1⟩:=B1.out
  go_wp2
  go_ret2
  exact ⟨HW.out,.inl ⟨fun h=>HC.out.1 h.2,k,⟨HC.out.2,HK.out⟩,rfl⟩⟩
 ·have HC:=Lib.hid (And.intro hc0 hF)
  have HO:=Lib.hid hO
  have HL:Hid (LoopsV w2 (.slice a (loopsF f).length c) (loopsF f)):=Lib.hid (hL.reads fun _ _ _ h=>h.reads)
  obtain ⟨lB,cB,fB⟩:=hN.n
  obtain ⟨nl,hnl⟩ : ∃ nl,nl=(loopsF f).length:=⟨_,rfl⟩
  rw [<-hnl] at cB HL
  have HNL:=Lib.hid hnl
  clear hc0 hF hO hD hN hT hL hS hnl
  clear lB1 cB1 fB1
  replace B1:=Lib.hid (B1.out.later hb)
  replace HW:=Lib.hid (HW.out.trans (hb.mono HW.out.size))
  clear hb
  obtain ⟨lB1,cB1,fB1⟩:=B1.out
  go_wp2
  go_ret2
  refine ⟨HW.out,.inr ⟨HC.out.1,HC.out.2,a,c,O, ?_,HO.out,by rw [<-HNL.out];exact HL.out⟩⟩
  rw [<-HNL.out]
  rfl
end Go.Proofs.YtgmhnepmkaonaaaGreat
namespace Go.Proofs.YtgmhnepmkaonaaaGreat
set_option linter.unusedSimpArgs false
set_option linter.unusedVariables false
open Go.RowKit
def flagI (b:Bool):Int:=if b then 1 else 0
def shnI (b:Int):Nat:=(b % 64).toNat
def calc2 (op a b:Int):Int :=
 if op=3 then IntKind.i64.wrap (a+b) else if op=4 then IntKind.i64.wrap (a - b) else if op=5 then IntKind.i64.wrap (a * b)
 else if op=6 then bits .and .i64 a b else if op=7 then bits .or .i64 a b else if op=8 then bits .xor .i64 a b
 else if op=9 then IntKind.i64.wrap (a * 2 ^ shnI b) else if op=10 then IntKind.i64.wrap (IntKind.u64.wrap a / 2 ^ shnI b)
 else if op=11 then IntKind.i64.wrap (a.tdiv b) else if op=12 then a.tmod b
 else if op=13 then flagI (a == b) else if op=14 then flagI (decide (a < b)) else flagI (decide (IntKind.u64.wrap a < IntKind.u64.wrap b))
def wantI (op:Int):Nat:=if op=16 then 1 else if op=17 then 3 else 2
def calcV (op:Int) (a:List Int):Int :=
 if op < 3 \/ 17 < op \/ a.length ≠ wantI op then 0
 else if op=16 then flagI (a.getD 0 0 == 0) else if op=17 then (if a.getD 0 0 ≠ 0 then a.getD 1 0 else a.getD 2 0)
 else if (op=11 \/ op=12)/\a.getD 1 0=0 then 0 else calc2 op (a.getD 0 0) (a.getD 1 0)
def calcE (op:Int) (a:List Int):Int :=
 if op < 3 \/ 17 < op \/ a.length ≠ wantI op then 1
 else if op=16 then 0 else if op=17 then 0
 else if (op=11 \/ op=12)/\a.getD 1 0=0 then 9 else 0
structure RunS where
 vals:Int -> Int
 cells:List Int
 arrays:List (List Int)
 out:List Int
 steps:Nat
 checks:Nat
 visits:List Nat
structure OverD where
 how:Int
 value:Int
 trap:Int
inductive Res (α : Type) where
 | go (a : α) (s:RunS)
 | over (o:OverD) (s:RunS)
def Res.bind {α β : Type} (r:Res α) (k : α -> RunS -> Res β):Res β := match r with | .go a s=>k a s | .over o s=>.over o s
def Res.st {α : Type}:Res α -> RunS | .go _ s=>s | .over _ s=>s
def setV (s:RunS) (id v:Int):RunS := { s with vals:=fun i=>if i=id then v else s.vals i }
def stepS (fuel:Nat) (s:RunS):Res Unit:=if s.steps=fuel then .over ⟨3,0,0⟩ s else .go () { s with steps:=s.steps+1 }
def lookS (op:Int) (s:RunS):RunS:=if op=19 \/ op=20 then { s with checks:=s.checks+1 } else s
def wildO (op:Int):OverD:=if op=19 \/ op=20 then ⟨2,0, -2⟩ else ⟨5,0,0⟩
def elemS (op:Int) (n i:Int) (s:RunS):Res Unit:=if i < 0 \/ ((s.arrays.getD n.toNat []).length:Int) <= i then .over (wildO op) (lookS op s) else .go () (lookS op s)
def instrS (x:InstrD) (s:RunS):Res Int :=
 if x.op=1 \/ x.op=2 then .go x.n s
 else if x.op=18 then .go ((s.arrays.getD x.n.toNat []).length) s
 else if x.op=19 \/ x.op=21 then (elemS x.op x.n ((x.args.map s.vals).getD 0 0) s).bind fun _ s1=>.go ((s1.arrays.getD x.n.toNat []).getD ((x.args.map s.vals).getD 0 0).toNat 0) s1
 else if x.op=20 \/ x.op=22 then (elemS x.op x.n ((x.args.map s.vals).getD 0 0) s).bind fun _ s1=>.go 0 { s1 with arrays:=s1.arrays.modify x.n.toNat fun a=>a.set ((x.args.map s.vals).getD 0 0).toNat ((x.args.map s.vals).getD 1 0) }
 else if x.op=23 then (if s.out.length=4096 then .over ⟨4,0,0⟩ s else .go 0 { s with out:=s.out ++ [(x.args.map s.vals).getD 0 0] })
 else if x.op=24 then .go (s.cells.getD x.n.toNat 0) s
 else if x.op=25 then .go 0 { s with cells:=s.cells.set x.n.toNat ((x.args.map s.vals).getD 0 0) }
 else if calcE x.op (x.args.map s.vals) ≠ 0 then .over ⟨2,0, -1⟩ s else .go (calcV x.op (x.args.map s.vals)) s
def putS (x:InstrD) (v:Int) (s:RunS):RunS:=if 0 <= x.id then setV s x.id v else s
def oneS (fuel:Nat) (x:InstrD) (s:RunS):Res Unit:=(stepS fuel s).bind fun _ s1=>(instrS x s1).bind fun v s2=>.go () (putS x v s2)
def codeS (fuel:Nat):List InstrD -> RunS -> Res Unit
 | [],s=>.go () s
 | x :: xs,s=>(oneS fuel x s).bind fun _ s1=>codeS fuel xs s1
theorem codeS_append (fuel:Nat) (xs ys:List InstrD) (s:RunS):codeS fuel (xs ++ ys) s=(codeS fuel xs s).bind fun _ s1=>codeS fuel ys s1:=by
 induction xs generalizing s with
 | nil=>rfl
 | cons x xs ih =>
  simp only [List.cons_append,codeS]
  cases oneS fuel x s with
  | go a s1=>exact ih s1
  | over o s1=>rfl
theorem codeS_snoc {fuel:Nat} {xs:List InstrD} {i:Nat} {x:InstrD} {s s1:RunS} (hx:xs[i]? = some x) (h:codeS fuel (xs.take i) s = .go () s1):codeS fuel (xs.take (i+1)) s=oneS fuel x s1:=by
 rw [List.take_add_one,hx,Option.toList_some,codeS_append,h]
 show (codeS fuel [x] s1)=_
 simp only [codeS]
 cases oneS fuel x s1 <;> rfl
theorem codeS_over {fuel:Nat} {xs:List InstrD} {i:Nat} {s s1:RunS} {o:OverD} (h:codeS fuel (xs.take i) s = .over o s1):codeS fuel xs s = .over o s1:=by
 have:=codeS_append fuel (xs.take i) (xs.drop i) s
 rw [List.take_append_drop,h] at this
 exact this
def phiV (src:Int) (s:RunS) (p:PhiD):Int:=s.vals (p.vals.getD (p.src.idxOf src) 0)
def putsS (s:RunS) (pv:List (PhiD × Int)):RunS:=pv.foldl (fun s q=>setV s q.1.id q.2) s
def phisR (b:BlockD) (src:Int) (s:RunS):RunS:=putsS s (b.phis.map fun p=>(p,phiV src s p))
def endR (t:TermD) (s:RunS):Res Int :=
 if t.op=3 then .over ⟨1,s.vals t.val,0⟩ s
 else if t.op=4 then .over ⟨2,0,t.n⟩ s
 else if t.op=2 then .go (t.to.getD (1 - s.vals t.val).toNat 0) s
 else .go (t.to.getD 0 0) s
def visitS (at_:Nat) (s:RunS):RunS := { s with visits:=s.visits.modify at_ (· + 1) }
def blockR (f:FuncD) (fuel:Nat) (src:Int) (at_:Nat) (s:RunS):Res Int :=
 (codeS fuel (f.blocks.getD at_ default).code (phisR (f.blocks.getD at_ default) src (visitS at_ s))).bind fun _ s1=>(stepS fuel s1).bind fun _ s2=>endR (f.blocks.getD at_ default).term s2
def runN (f:FuncD) (fuel:Nat):Nat -> Int -> Nat -> RunS -> Option (OverD × RunS)
 | 0,_,_,_=>none
 | n+1,src,at_,s=>match blockR f fuel src at_ s with
  | .over o s1=>some (o,s1)
  | .go to s1=>runN f fuel n at_ to.toNat s1
theorem runN_more {f:FuncD} {fuel:Nat}:∀ {n m:Nat} {src:Int} {at_:Nat} {s:RunS} {r:OverD × RunS},runN f fuel n src at_ s=some r -> n <= m -> runN f fuel m src at_ s=some r
 | 0,_,_,_,_,_,h,_=>by simp [runN] at h
 | n+1,0,_,_,_,_,_,hm=>absurd hm (by omega)
 | n+1,m+1,src,at_,s,r,h,hm=>by
  unfold runN at h ⊢
  cases hb:blockR f fuel src at_ s with
  | over o s1=>rw [hb] at h;exact h
  | go to s1=>rw [hb] at h;exact runN_more h (by omega)
def Runs (f:FuncD) (fuel:Nat) (src:Int) (at_:Nat) (s:RunS) (o:OverD) (s' : RunS):Prop := ∃ n,runN f fuel n src at_ s=some (o,s')
theorem Runs.one {f:FuncD} {fuel:Nat} {src:Int} {at_:Nat} {s s1 s2:RunS} {o o2:OverD} (h:Runs f fuel src at_ s o s1) (k:Runs f fuel src at_ s o2 s2):o=o2/\s1=s2:=by
 obtain ⟨n,h⟩:=h
 obtain ⟨m,k⟩:=k
 have h1:=runN_more h (Nat.le_max_left n m)
 have k1:=runN_more k (Nat.le_max_right n m)
 rw [h1] at k1
 injection k1 with e
 exact ⟨congrArg Prod.fst e,congrArg Prod.snd e⟩
theorem Runs.over {f:FuncD} {fuel:Nat} {src:Int} {at_:Nat} {s s1:RunS} {o:OverD} (h:blockR f fuel src at_ s = .over o s1):Runs f fuel src at_ s o s1:=⟨1,by unfold runN;rw [h]⟩
theorem Runs.go {f:FuncD} {fuel:Nat} {src to:Int} {at_:Nat} {s s1 s2:RunS} {o:OverD} (h:blockR f fuel src at_ s = .go to s1) (k:Runs f fuel at_ to.toNat s1 o s2):Runs f fuel src at_ s o s2:=by
 obtain ⟨n,k⟩:=k
 exact ⟨n+1,by unfold runN;rw [h];exact k⟩
structure InputD where
 args:List Int
 arrays:List (List Int)
def argI (f:FuncD) (args:List Int) (id:Int):Int :=
 if 0 <= id/\id < f.params.length/\id < args.length then (if f.params.getD id.toNat 0=2 then flagI (decide (args.getD id.toNat 0 ≠ 0)) else args.getD id.toNat 0) else 0
def startS (f:FuncD) (i:InputD):RunS :=
 { vals:=argI f i.args,cells:=List.replicate f.cells.toNat 0,arrays:=(List.range f.arrays.toNat).map fun k=>(i.arrays.getD k []).take 4096,out:=[],steps:=0,checks:=0,visits:=List.replicate f.blocks.length 0 }
structure TraceD where
 how:Int
 value:Int
 trap:Int
 out:List Int
 arrays:List (List Int)
 steps:Int
 checks:Int
 visits:List Int
 deriving DecidableEq,Inhabited
def refusedT:TraceD:=⟨6,0,0,[],[],0,0,[]⟩
def traceT (o:OverD) (s:RunS):TraceD:=⟨o.how,o.value,o.trap,s.out,s.arrays,s.steps,s.checks,s.visits.map fun n:Nat=>(n:Int)⟩
end Go.Proofs.YtgmhnepmkaonaaaGreat
namespace Go.Proofs.YtgmhnepmkaonaaaGreat
set_option linter.unusedSimpArgs false
set_option linter.unusedVariables false
open Go.RowKit
def SameR (v:Value) (w:World) (e:Ending) (w' : World):Prop:=e = .returned v/\Below w.heap.size w w'
theorem flagC {w:World} (b:Bool):Calls Tryz.prog 61 #[.bool b] w (SameR (.int .i64 (flagI b)) w):=by
 cases b
 ·skip
  go_enter Tryz.func61,Tryz.ntmps61
  go_wp2
  go_ret
  exact ⟨rfl,Below.refl _ _⟩
 ·skip
  go_enter Tryz.func61,Tryz.ntmps61
  go_wp2
  go_ret
  exact ⟨rfl,Below.refl _ _⟩
theorem and63 (b:Int):bits .and .i64 b 63=b % 64:=by
 have h1:(BitVec.ofInt 64 b &&& BitVec.ofInt 64 63).toNat=(b % 64).toNat:=by
  rw [BitVec.toNat_and]
  have h2:(BitVec.ofInt 64 63).toNat=2 ^ 6 - 1:=by decide
  rw [h2,Nat.and_two_pow_sub_one_eq_mod,BitVec.toNat_ofInt]
  omega
 have key:bits .and .i64 b 63=IntKind.i64.wrap ((BitVec.ofInt 64 b &&& BitVec.ofInt 64 63).toNat:Int):=rfl
 rw [key,h1]
 have h3:0 <= b % 64/\b % 64 < 64:=by omega
 rw [i64_wrap,Int.toNat_of_nonneg h3.1]
 unfold wrap64
 omega
theorem wordadd {w:World} (a b:Int):Calls Tryz.prog 196 #[.int .i64 a,.int .i64 b] w (SameR (.int .i64 (calc2 3 a b)) w):=by
 have hc:calc2 3 a b=wrap64 (a+b):=i64_wrap _
 rw [hc]
 clear hc
 go_enter Tryz.func196,Tryz.ntmps196
 go_wp2
 go_ret
 exact ⟨rfl,Below.refl _ _⟩
theorem wordsub {w:World} (a b:Int):Calls Tryz.prog 197 #[.int .i64 a,.int .i64 b] w (SameR (.int .i64 (calc2 4 a b)) w):=by
 have hc:calc2 4 a b=wrap64 (a - b):=i64_wrap _
 rw [hc]
 clear hc
 go_enter Tryz.func197,Tryz.ntmps197
 go_wp2
 go_ret
 exact ⟨rfl,Below.refl _ _⟩
theorem wordmul {w:World} (a b:Int):Calls Tryz.prog 198 #[.int .i64 a,.int .i64 b] w (SameR (.int .i64 (calc2 5 a b)) w):=by
 have hc:calc2 5 a b=wrap64 (a * b):=i64_wrap _
 rw [hc]
 clear hc
 go_enter Tryz.func198,Tryz.ntmps198
 go_wp2
 go_ret
 exact ⟨rfl,Below.refl _ _⟩
theorem wordand {w:World} (a b:Int):Calls Tryz.prog 199 #[.int .i64 a,.int .i64 b] w (SameR (.int .i64 (calc2 6 a b)) w):=by
 have hc:calc2 6 a b=bits .and .i64 a b:=rfl
 rw [hc]
 clear hc
 go_enter Tryz.func199,Tryz.ntmps199
 go_wp2
 go_ret
 exact ⟨rfl,Below.refl _ _⟩
theorem wordor {w:World} (a b:Int):Calls Tryz.prog 200 #[.int .i64 a,.int .i64 b] w (SameR (.int .i64 (calc2 7 a b)) w):=by
 have hc:calc2 7 a b=bits .or .i64 a b:=rfl
 rw [hc]
 clear hc
 go_enter Tryz.func200,Tryz.ntmps200
 go_wp2
 go_ret
 exact ⟨rfl,Below.refl _ _⟩
theorem wordxor {w:World} (a b:Int):Calls Tryz.prog 201 #[.int .i64 a,.int .i64 b] w (SameR (.int .i64 (calc2 8 a b)) w):=by
 have hc:calc2 8 a b=bits .xor .i64 a b:=rfl
 rw [hc]
 clear hc
 go_enter Tryz.func201,Tryz.ntmps201
 go_wp2
 go_ret
 exact ⟨rfl,Below.refl _ _⟩
theorem wordShl {w:World} (a b:Int):Calls Tryz.prog 202 #[.int .i64 a,.int .i64 b] w (SameR (.int .i64 (calc2 9 a b)) w):=by
 have hc:calc2 9 a b=wrap64 (a * 2 ^ (b % 64).toNat):=by rw [<-i64_wrap];rfl
 rw [hc]
 have h6:=and63 b
 have h0:0 <= b % 64:=by omega
 clear hc
 go_enter Tryz.func202,Tryz.ntmps202
 go_wp2
 go_ret
 exact ⟨rfl,Below.refl _ _⟩
theorem wordShr {w:World} (a b:Int):Calls Tryz.prog 203 #[.int .i64 a,.int .i64 b] w (SameR (.int .i64 (calc2 10 a b)) w):=by
 have hc:calc2 10 a b=wrap64 (IntKind.u64.wrap a / 2 ^ (b % 64).toNat):=by rw [<-i64_wrap];rfl
 rw [hc]
 have h6:=and63 b
 have h0:0 <= b % 64:=by omega
 clear hc
 go_enter Tryz.func203,Tryz.ntmps203
 go_wp2
 go_ret
 exact ⟨rfl,Below.refl _ _⟩
theorem wordDiv {w:World} (a b:Int) (hb:¬ b=0):Calls Tryz.prog 204 #[.int .i64 a,.int .i64 b] w (SameR (.int .i64 (calc2 11 a b)) w):=by
 have hc:calc2 11 a b=wrap64 (a.tdiv b):=by rw [<-i64_wrap];rfl
 rw [hc]
 clear hc
 go_enter Tryz.func204,Tryz.ntmps204
 go_wp2
 go_ret
 exact ⟨rfl,Below.refl _ _⟩
theorem wordRem {w:World} (a b:Int) (hb:¬ b=0):Calls Tryz.prog 205 #[.int .i64 a,.int .i64 b] w (SameR (.int .i64 (calc2 12 a b)) w):=by
 have hc:calc2 12 a b=a.tmod b:=rfl
 rw [hc]
 clear hc
 go_enter Tryz.func205,Tryz.ntmps205
 go_wp2
 go_ret
 exact ⟨rfl,Below.refl _ _⟩
theorem wordeq {w:World} (a b:Int):Calls Tryz.prog 206 #[.int .i64 a,.int .i64 b] w (SameR (.int .i64 (calc2 13 a b)) w):=by
 have hc:calc2 13 a b=flagI (a == b):=rfl
 rw [hc]
 clear hc
 go_enter Tryz.func206,Tryz.ntmps206
 go_wp2_with fail
 refine (flagC _).mono ?_
 rintro e w2 ⟨rfl,hb⟩
 go_wp2
 go_ret
 exact ⟨rfl,hb⟩
theorem wordlt {w:World} (a b:Int):Calls Tryz.prog 207 #[.int .i64 a,.int .i64 b] w (SameR (.int .i64 (calc2 14 a b)) w):=by
 have hc:calc2 14 a b=flagI (decide (a < b)):=rfl
 rw [hc]
 clear hc
 go_enter Tryz.func207,Tryz.ntmps207
 go_wp2_with fail
 refine (flagC _).mono ?_
 rintro e w2 ⟨rfl,hb⟩
 go_wp2
 go_ret
 exact ⟨rfl,hb⟩
theorem wordbelow {w:World} (a b:Int):Calls Tryz.prog 208 #[.int .i64 a,.int .i64 b] w (SameR (.int .i64 (calc2 15 a b)) w):=by
 have hc:calc2 15 a b=flagI (decide (IntKind.u64.wrap a < IntKind.u64.wrap b)):=rfl
 rw [hc]
 clear hc
 go_enter Tryz.func208,Tryz.ntmps208
 go_wp2_with fail
 refine (flagC _).mono ?_
 rintro e w2 ⟨rfl,hb⟩
 go_wp2
 go_ret
 exact ⟨rfl,hb⟩
end Go.Proofs.YtgmhnepmkaonaaaGreat
