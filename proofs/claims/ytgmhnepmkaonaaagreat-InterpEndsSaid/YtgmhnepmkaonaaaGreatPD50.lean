/- Part 50. -/
import Derived.Test.YtgmhnepmkaonaaaGreatPD6
import Derived.Test.YtgmhnepmkaonaaaGreatPD36
import Derived.Test.YtgmhnepmkaonaaaGreatPD49
import Derived.Test.YtgmhnepmkaonaaaGreatPD41
import Derived.Test.YtgmhnepmkaonaaaGreatPD40
import Derived.Test.YtgmhnepmkaonaaaGreatPD35
import Derived.Test.YtgmhnepmkaonaaaGreatPD3
import Derived.Test.YtgmhnepmkaonaaaGreatPD31
import Derived.Test.YtgmhnepmkaonaaaGreatPD14
import Derived.Test.YtgmhnepmkaonaaaGreatPD21
import Derived.Test.YtgmhnepmkaonaaaGreatPD4
import Derived.Test.YtgmhnepmkaonaaaGreatPD42
import Derived.Test.YtgmhnepmkaonaaaGreatPD48
import Derived.Test.YtgmhnepmkaonaaaGreatPD44
namespace Go.Proofs.YtgmhnepmkaonaaaGreat
private theorem h! {p : Prop} (h : p) : Go.RowKit.Hid p := Go.Lib.hid h
set_option maxHeartbeats 6400000
set_option linter.unusedSimpArgs false
set_option linter.unusedVariables false
open Go.RowKit
def Cap {α : Type} (fuel:Nat) (r:Res α):Prop:=r.st.steps <= fuel
theorem stepS_cap {fuel:Nat} {s:RunS} (h:s.steps <= fuel):Cap fuel (stepS fuel s):=by
 unfold Cap stepS
 split
 ·exact h
 ·show s.steps+1 <= fuel;omega
theorem bind_cap {α β : Type} {fuel:Nat} {r:Res α} {k : α -> RunS -> Res β} (h:Cap fuel r) (hk:∀ x s1,s1.steps <= fuel -> Cap fuel (k x s1)):Cap fuel (r.bind k):=by
 cases r with
 | go x s1=>exact hk x s1 h
 | over o s1=>exact h
theorem idle_cap {α : Type} {fuel:Nat} {r:Res α} {s:RunS} (h:Idle 0 s r.st) (hs:s.steps <= fuel):Cap fuel r:=by
 have:=h.2.2
 unfold Cap;omega
theorem oneS_cap {fuel:Nat} (x:InstrD) {s:RunS} (h:s.steps <= fuel):Cap fuel (oneS fuel x s):=by
 unfold oneS
 refine bind_cap (stepS_cap h) fun _ s1 h1=>bind_cap (idle_cap (instrS_idle x s1) h1) fun v s2 h2 => ?_
 have:=(putS_idle x v s2).2.2
 show (putS x v s2).steps <= fuel
 omega
theorem codeS_cap {fuel:Nat}:∀ (xs:List InstrD) {s:RunS},s.steps <= fuel -> Cap fuel (codeS fuel xs s)
 | [],s,h=>h
 | x :: xs,s,h=>bind_cap (oneS_cap x h) fun _ s1 h1=>codeS_cap xs h1
theorem blockR_cap {f:FuncD} {fuel:Nat} (src:Int) (at_:Nat) {s:RunS} (h:s.steps <= fuel):Cap fuel (blockR f fuel src at_ s):=by
 unfold blockR
 have h0:Idle 0 (visitS at_ s) (phisR (f.blocks.getD at_ default) src (visitS at_ s)):=putsS_idle _ _
 refine bind_cap (codeS_cap _ ?_) fun _ s1 h1=>bind_cap (stepS_cap h1) fun _ s2 h2=>idle_cap (endR_idle _ s2) h2
 have h1:=h0.2.2
 have e:(visitS at_ s).steps=s.steps:=rfl
 omega
theorem runN_cap {f:FuncD} {fuel:Nat}:∀ {n:Nat} {src:Int} {at_:Nat} {s s' : RunS} {o:OverD},s.steps <= fuel -> runN f fuel n src at_ s=some (o,s') -> s'.steps <= fuel
 | 0,_,_,_,_,_,_,h=>by simp [runN] at h
 | n+1,src,at_,s,s',o,hs,h=>by
  have hx:=blockR_cap (f:=f) src at_ hs
  unfold runN at h
  cases hb:blockR f fuel src at_ s with
  | over o1 s1 =>
   rw [hb] at h hx
   injection h with e
   injection e with e1 e2
   rw [<-e2];exact hx
  | go to s1 =>
   rw [hb] at h hx
   exact runN_cap hx h
def lensA (s:RunS):List Nat:=s.arrays.map List.length
def Fair (s s' : RunS):Prop:=s'.out.length+s'.checks+s.steps <= s.out.length+s.checks+s'.steps/\lensA s' = lensA s
theorem Fair.refl (s:RunS):Fair s s:=⟨Nat.le_refl _,rfl⟩
theorem Fair.trans {a b c:RunS} (h:Fair a b) (k:Fair b c):Fair a c:=⟨by have:=h.1;have:=k.1;omega,k.2.trans h.2⟩
def OvF (o:OverD):Prop:=1 <= o.how/\o.how <= 5/\(o.how=2 \/ o.trap=0)/\(o.how=1 \/ o.value=0)
def FairR {α : Type} (s:RunS) (r:Res α):Prop:=Fair s r.st /\ ∀ o s',r = .over o s' -> OvF o
theorem FairR.go {α : Type} {s s' : RunS} {a : α} (h:Fair s s'):FairR s (.go a s'):=⟨h,fun o s' e=>by cases e⟩
theorem FairR.over {α : Type} {s s' : RunS} {o:OverD} (h:Fair s s') (ho:OvF o):FairR (α := α) s (.over o s'):=⟨h,fun o s' e=>by cases e;exact ho⟩
theorem FairR.bind {α β : Type} {s:RunS} {r:Res α} {k : α -> RunS -> Res β} (h:FairR s r) (hk:∀ a s1,r = .go a s1 -> FairR s1 (k a s1)):FairR s (r.bind k):=by
 cases r with
 | go a s1 =>
  have h2:=hk a s1 rfl
  exact ⟨h.1.trans h2.1,h2.2⟩
 | over o s1=>exact ⟨h.1,fun o' s' e=>by cases e;exact h.2 _ _ rfl⟩
def FairI (s:RunS) (r:Res Int):Prop:=r.st.steps=s.steps/\r.st.out.length+r.st.checks <= s.out.length+s.checks+1/\lensA r.st=lensA s /\ ∀ o s',r = .over o s' -> OvF o
theorem wildO_fair (op:Int):OvF (wildO op):=by
 unfold wildO
 split
 ·exact ⟨by decide,by decide,.inl rfl,.inr rfl⟩
 ·exact ⟨by decide,by decide,.inr rfl,.inr rfl⟩
theorem lookS_fair (op:Int) (s:RunS):(lookS op s).steps=s.steps/\(lookS op s).out=s.out/\(lookS op s).checks <= s.checks+1/\(lookS op s).arrays=s.arrays:=by
 unfold lookS
 split
 ·exact ⟨rfl,rfl,Nat.le_refl _,rfl⟩
 ·exact ⟨rfl,rfl,Nat.le_succ _,rfl⟩
theorem modify_lens (xs:List (List Int)) (i j:Nat) (v:Int):(xs.modify i fun a=>a.set j v).map List.length=xs.map List.length:=by
 apply List.ext_getElem?
 intro k
 rw [List.getElem?_map,List.getElem?_map,List.getElem?_modify]
 cases xs[k]? with
 | none=>rfl
 | some a =>
  simp only [Option.map_some]
  split
  ·simp
  ·rfl
theorem instrS_fair (x:InstrD) (s:RunS):FairI s (instrS x s):=by
 have same:∀ v,FairI s (.go v s):=fun v=>⟨rfl,Nat.le_succ _,rfl,fun o s' e=>by cases e⟩
 obtain ⟨l1,l2,l3,l4⟩:=lookS_fair x.op s
 have wild:FairI s (.over (wildO x.op) (lookS x.op s)):=⟨l1,by show (lookS x.op s).out.length+(lookS x.op s).checks <= _;rw [l2];omega,by show (lookS x.op s).arrays.map _=_;rw [l4];rfl,fun o s' e=>by cases e;exact wildO_fair _⟩
 unfold instrS
 split
 ·exact same _
 split
 ·exact same _
 split
 ·rcases elemS_cases x.op x.n ((x.args.map s.vals).getD 0 0) s with h | h
  ·rw [h];exact wild
  ·rw [h];exact ⟨l1,by show (lookS x.op s).out.length+(lookS x.op s).checks <= _;rw [l2];omega,by show (lookS x.op s).arrays.map _=_;rw [l4];rfl,fun o s' e=>by cases e⟩
 split
 ·rcases elemS_cases x.op x.n ((x.args.map s.vals).getD 0 0) s with h | h
  ·rw [h];exact wild
  ·rw [h]
   refine ⟨l1,by show (lookS x.op s).out.length+(lookS x.op s).checks <= _;rw [l2];omega, ?_,fun o s' e=>by cases e⟩
   show ((lookS x.op s).arrays.modify x.n.toNat fun a=>a.set ((x.args.map s.vals).getD 0 0).toNat ((x.args.map s.vals).getD 1 0)).map List.length=_
   rw [modify_lens,l4];rfl
 split
 ·split
  ·exact ⟨rfl,Nat.le_succ _,rfl,fun o s' e=>by cases e;exact ⟨by show (1:Int) <= 4;omega,by show (4:Int) <= 5;omega,.inr rfl,.inr rfl⟩⟩
  ·exact ⟨rfl,by show (s.out ++ [(x.args.map s.vals).getD 0 0]).length+s.checks <= _;rw [List.length_append];simp only [List.length_cons,List.length_nil];omega,rfl,fun o s' e=>by cases e⟩
 split
 ·exact same _
 split
 ·exact ⟨rfl,Nat.le_succ _,rfl,fun o s' e=>by cases e⟩
 split
 ·exact ⟨rfl,Nat.le_succ _,rfl,fun o s' e=>by cases e;exact ⟨by show (1:Int) <= 2;omega,by show (2:Int) <= 5;omega,.inl rfl,.inr rfl⟩⟩
 ·exact same _
theorem putS_fair (x:InstrD) (v:Int) (s:RunS):Fair s (putS x v s):=by
 unfold putS
 split
 ·exact ⟨Nat.le_refl _,rfl⟩
 ·exact Fair.refl s
theorem oneS_fair (fuel:Nat) (x:InstrD) (s:RunS):FairR s (oneS fuel x s):=by
 unfold oneS stepS
 split
 ·exact .over (Fair.refl s) ⟨by show (1:Int) <= 3;omega,by show (3:Int) <= 5;omega,.inr rfl,.inr rfl⟩
 ·obtain ⟨h1,h2,h3,h4⟩:=instrS_fair x { s with steps:=s.steps+1 }
  have key:Fair s (instrS x { s with steps:=s.steps+1 }).st:=by
   refine ⟨?_,h3⟩
   rw [h1]
   have h5:(instrS x { s with steps:=s.steps+1 }).st.out.length+(instrS x { s with steps:=s.steps+1 }).st.checks <= s.out.length+s.checks+1:=h2
   show _+s.steps <= _+(s.steps+1)
   omega
  exact FairR.bind (r:=instrS x { s with steps:=s.steps+1 }) (k:=fun v s2=>.go () (putS x v s2)) ⟨key,h4⟩ fun v s1 _=>.go (putS_fair x v s1)
theorem codeS_fair (fuel:Nat):∀ (xs:List InstrD) (s:RunS),FairR s (codeS fuel xs s)
 | [],s=>.go (Fair.refl s)
 | x :: xs,s=>(oneS_fair fuel x s).bind fun _ s1 _=>codeS_fair fuel xs s1
theorem putsS_fair:∀ (pv:List (PhiD × Int)) (s:RunS),Fair s (putsS s pv)
 | [],s=>Fair.refl s
 | q :: pv,s=>(show Fair s (setV s q.1.id q.2) from ⟨Nat.le_refl _,rfl⟩).trans (putsS_fair pv _)
theorem stepS_fair (fuel:Nat) (s:RunS):FairR s (stepS fuel s):=by
 unfold stepS
 split
 ·exact .over (Fair.refl s) ⟨by show (1:Int) <= 3;omega,by show (3:Int) <= 5;omega,.inr rfl,.inr rfl⟩
 ·exact .go ⟨by show s.out.length+s.checks+s.steps <= s.out.length+s.checks+(s.steps+1);omega,rfl⟩
theorem endR_fair (t:TermD) (s:RunS):FairR s (endR t s):=by
 unfold endR
 split
 ·exact .over (Fair.refl s) ⟨by show (1:Int) <= 1;omega,by show (1:Int) <= 5;omega,.inr rfl,.inl rfl⟩
 split
 ·exact .over (Fair.refl s) ⟨by show (1:Int) <= 2;omega,by show (2:Int) <= 5;omega,.inl rfl,.inr rfl⟩
 split
 ·exact .go (Fair.refl s)
 ·exact .go (Fair.refl s)
theorem blockR_fair (f:FuncD) (fuel:Nat) (src:Int) (a:Nat) (s:RunS):FairR s (blockR f fuel src a s):=by
 have h1:Fair s (phisR (f.blocks.getD a default) src (visitS a s)):=(show Fair s (visitS a s) from ⟨Nat.le_refl _,rfl⟩).trans (putsS_fair _ _)
 have h2:=(codeS_fair fuel (f.blocks.getD a default).code (phisR (f.blocks.getD a default) src (visitS a s))).bind (k:=fun _ s1=>(stepS fuel s1).bind fun _ s2=>endR (f.blocks.getD a default).term s2) fun _ s1 _=>(stepS_fair fuel s1).bind fun _ s2 _=>endR_fair _ s2
 exact ⟨h1.trans h2.1,h2.2⟩
theorem runN_fair {f:FuncD} {fuel:Nat}:∀ {n:Nat} {src:Int} {a:Nat} {s s' : RunS} {o:OverD},runN f fuel n src a s=some (o,s') -> Fair s s' /\ OvF o
 | 0,_,_,_,_,_,h=>by simp [runN] at h
 | n+1,src,a,s,s',o,h=>by
  have hb:=blockR_fair f fuel src a s
  unfold runN at h
  cases hr:blockR f fuel src a s with
  | over o1 s1 =>
   rw [hr] at h hb
   injection h with e
   injection e with e1 e2
   subst e1
   subst e2
   exact ⟨hb.1,hb.2 _ _ rfl⟩
  | go to s1 =>
   rw [hr] at h hb
   obtain ⟨k1,k2⟩:=runN_fair h
   exact ⟨hb.1.trans k1,k2⟩
theorem ends_law {f:FuncD} {i:InputD} {fuel:Int} {t:TraceD} (hf:0 <= fuel/\fuel <= 2000) (h:RunP f i fuel t) :
  (t=refusedT /\ ¬ (checkF f=0/\FaultR f 0 0)) \/
  (t.how ≠ 6/\1 <= t.how/\t.how <= 5/\0 <= t.steps/\t.steps <= fuel/\(t.out.length:Int)+t.checks <= t.steps/\0 <= t.checks/\t.arrays.length=f.arrays.toNat/\(t.how=2 \/ t.trap=0)/\(t.how=1 \/ t.value=0) /\
   ∀ k:Nat,k < t.arrays.length -> (t.arrays.getD k []).length=min (i.arrays.getD k []).length 4096):=by
 rcases h with ⟨rfl,hn⟩ | ⟨hc,hF,h0,o,s,⟨n,hr⟩,rfl⟩
 ·exact .inl ⟨rfl,fun h=>hn ⟨h.1,h.2,hf.1⟩⟩
 ·obtain ⟨⟨k1,k2⟩,k3,k4,k5,k6⟩:=runN_fair hr
  have hcap:=runN_cap (f:=f) (s:=startS f i) (Nat.zero_le _) hr
  have hm:(min fuel 200000).toNat <= fuel.toNat:=by omega
  have k1' : s.out.length+s.checks+0 <= 0+0+s.steps:=k1
  have hl:s.arrays.length=f.arrays.toNat:=by
   have:=congrArg List.length k2
   unfold lensA at this
   rw [List.length_map,List.length_map] at this
   rw [this]
   show ((List.range f.arrays.toNat).map _).length=_
   rw [List.length_map,List.length_range]
  refine .inr ⟨by show o.how ≠ 6;omega,k3,k4,by show (0:Int) <= (s.steps:Int);omega,by show (s.steps:Int) <= fuel;omega,by show ((s.out.length:Int))+(s.checks:Int) <= (s.steps:Int);omega,by show (0:Int) <= (s.checks:Int);omega,hl,k5,k6,fun k hk => ?_⟩
  have hk2:k < s.arrays.length:=hk
  have e1:(lensA s)[k]? = some ((s.arrays.getD k []).length):=by
   unfold lensA
   rw [List.getElem?_map,List.getElem?_eq_getElem hk2,List.getD_eq_getElem?_getD,List.getElem?_eq_getElem hk2];rfl
  have e2:(lensA (startS f i))[k]? = some (((i.arrays.getD k []).take 4096).length):=by
   unfold lensA
   show (((List.range f.arrays.toNat).map fun k=>(i.arrays.getD k []).take 4096).map List.length)[k]? = _
   rw [List.getElem?_map,List.getElem?_map,List.getElem?_range (by rw [<-hl];exact hk2)];rfl
  rw [k2,e2] at e1
  injection e1 with e1
  show (s.arrays.getD k []).length=_
  rw [<-e1,List.length_take,Nat.min_comm]
def alikeT (t u:TraceD):Bool:=(t.how == u.how) && (t.value == u.value) && (t.trap == u.trap) && decide (t.out=u.out) && decide (t.arrays=u.arrays)
def sameT (t u:TraceD):Bool:=alikeT t u && (t.steps == u.steps) && (t.checks == u.checks) && decide (t.visits=u.visits)
theorem sameT_self (t:TraceD):sameT t t=true:=by simp [sameT,alikeT]
def TellsR (b:Bool) (w:World) (e:Ending) (w' : World):Prop:=e = .returned (.bool b)/\Below w.heap.size w w'
theorem below_drew (w:World) (n:Nat):Below w.heap.size w (w.drewN n):=⟨rfl,rfl,rfl,Nat.le_refl _,fun _ _=>rfl⟩
theorem refAlike {w:World} {v v' : Value} {t u:TraceD} (ht:TraceV w v t) (hu:TraceV w v' u):Calls Tryz.prog 43 #[v,v'] w (TellsR (alikeT t u) w):=by
 rcases t with ⟨x0,x1,x2,xo,xa,x5,x6,xv⟩
 rcases u with ⟨y0,y1,y2,yo,ya,y5,y6,yv⟩
 obtain ⟨o1,a1,v1,rfl,ho1,ha1,hv1⟩:=ht
 obtain ⟨o2,a2,v2,rfl,ho2,ha2,hv2⟩:=hu
 simp only at ho1 ha1 hv1 ho2 ha2 hv2 ⊢
 have HO1:=h! ho1
 have HO2:=h! ho2
 have HA1:=h! ha1
 have HA2:=h! ha2
 obtain ⟨b1,c1,rfl⟩:=ho1.form
 obtain ⟨b2,c2,rfl⟩:=ho2.form
 obtain ⟨b3,c3,rfl⟩:=hv1.form
 obtain ⟨b4,c4,rfl⟩:=hv2.form
 obtain ⟨_,b5,c5,_,_,rfl, -, -, -, -, -, -⟩:=ha1.parts
 obtain ⟨_,b6,c6,_,_,rfl, -, -, -, -, -, -⟩:=ha2.parts
 clear ho1 ho2 ha1 ha2 hv1 hv2
 go_enter Tryz.func43,Tryz.ntmps43
 go_upto_region 1 with (fail)
 have B2:Hid (Box ((w.alloc (.cells #[.int .i64 x0,.int .i64 x1,.int .i64 x2,.slice b1 xo.length c1,.slice b5 xa.length c5,.int .i64 x5,.int .i64 x6,.slice b3 xv.length c3] 49)).alloc (.cells #[.int .i64 y0,.int .i64 y1,.int .i64 y2,.slice b2 yo.length c2,.slice b6 ya.length c6,.int .i64 y5,.int .i64 y6,.slice b4 yv.length c4] 49)) (w.heap.size) #[.int .i64 x0,.int .i64 x1,.int .i64 x2,.slice b1 xo.length c1,.slice b5 xa.length c5,.int .i64 x5,.int .i64 x6,.slice b3 xv.length c3]):=h! (by simpa using ((Box.new w #[.int .i64 x0,.int .i64 x1,.int .i64 x2,.slice b1 xo.length c1,.slice b5 xa.length c5,.int .i64 x5,.int .i64 x6,.slice b3 xv.length c3] 49).alloc _))
 have B3:Hid (Box ((w.alloc (.cells #[.int .i64 x0,.int .i64 x1,.int .i64 x2,.slice b1 xo.length c1,.slice b5 xa.length c5,.int .i64 x5,.int .i64 x6,.slice b3 xv.length c3] 49)).alloc (.cells #[.int .i64 y0,.int .i64 y1,.int .i64 y2,.slice b2 yo.length c2,.slice b6 ya.length c6,.int .i64 y5,.int .i64 y6,.slice b4 yv.length c4] 49)) (w.heap.size+1) #[.int .i64 y0,.int .i64 y1,.int .i64 y2,.slice b2 yo.length c2,.slice b6 ya.length c6,.int .i64 y5,.int .i64 y6,.slice b4 yv.length c4]):=h! (by simpa using (Box.new (w.alloc (.cells #[.int .i64 x0,.int .i64 x1,.int .i64 x2,.slice b1 xo.length c1,.slice b5 xa.length c5,.int .i64 x5,.int .i64 x6,.slice b3 xv.length c3] 49)) #[.int .i64 y0,.int .i64 y1,.int .i64 y2,.slice b2 yo.length c2,.slice b6 ya.length c6,.int .i64 y5,.int .i64 y6,.slice b4 yv.length c4] 49))
 have HW:Hid (Below w.heap.size w ((w.alloc (.cells #[.int .i64 x0,.int .i64 x1,.int .i64 x2,.slice b1 xo.length c1,.slice b5 xa.length c5,.int .i64 x5,.int .i64 x6,.slice b3 xv.length c3] 49)).alloc (.cells #[.int .i64 y0,.int .i64 y1,.int .i64 y2,.slice b2 yo.length c2,.slice b6 ya.length c6,.int .i64 y5,.int .i64 y6,.slice b4 yv.length c4] 49))):=h! (((Below.refl _ _).alloc (Nat.le_refl _) _).alloc (by simp) _)
 generalize ((w.alloc (.cells #[.int .i64 x0,.int .i64 x1,.int .i64 x2,.slice b1 xo.length c1,.slice b5 xa.length c5,.int .i64 x5,.int .i64 x6,.slice b3 xv.length c3] 49)).alloc (.cells #[.int .i64 y0,.int .i64 y1,.int .i64 y2,.slice b2 yo.length c2,.slice b6 ya.length c6,.int .i64 y5,.int .i64 y6,.slice b4 yv.length c4] 49))=wv at *
 obtain ⟨lB2,cB2,fB2⟩:=B2.out
 obtain ⟨lB3,cB3,fB3⟩:=B3.out
 cases q0:(x0 == y0)
 ·have HRES:Hid (alikeT ⟨x0,x1,x2,xo,xa,x5,x6,xv⟩ ⟨y0,y1,y2,yo,ya,y5,y6,yv⟩=false):=h! (by simp [alikeT,q0])
  go_wp2
  go_ret
  exact ⟨by rw [HRES.out];rfl,HW.out⟩
 cases q1:(x1 == y1)
 ·have HRES:Hid (alikeT ⟨x0,x1,x2,xo,xa,x5,x6,xv⟩ ⟨y0,y1,y2,yo,ya,y5,y6,yv⟩=false):=h! (by simp [alikeT,q0,q1])
  go_wp2
  go_ret
  exact ⟨by rw [HRES.out];rfl,HW.out⟩
 cases q2:(x2 == y2)
 ·have HRES:Hid (alikeT ⟨x0,x1,x2,xo,xa,x5,x6,xv⟩ ⟨y0,y1,y2,yo,ya,y5,y6,yv⟩=false):=h! (by simp [alikeT,q0,q1,q2])
  go_wp2
  go_ret
  exact ⟨by rw [HRES.out];rfl,HW.out⟩
 have HQ:=h! (show (x0 == y0)=true/\(x1 == y1)=true/\(x2 == y2)=true from ⟨q0,q1,q2⟩)
 go_wp2_with fail
 refine (sameInts (HO1.out.below HW.out) (HO2.out.below HW.out)).mono ?_
 rintro e w2 ⟨rfl,n,rfl⟩
 have hb:=below_drew wv n
 generalize wv.drewN n=w2 at *
 clear lB2 cB2 fB2 lB3 cB3 fB3
 replace B2:=h! (B2.out.later hb)
 replace B3:=h! (B3.out.later hb)
 replace HW:=h! (HW.out.trans (hb.mono HW.out.size))
 clear hb
 obtain ⟨lB2,cB2,fB2⟩:=B2.out
 obtain ⟨lB3,cB3,fB3⟩:=B3.out
 cases q3:decide (xo=yo)
 ·have HRES:Hid (alikeT ⟨x0,x1,x2,xo,xa,x5,x6,xv⟩ ⟨y0,y1,y2,yo,ya,y5,y6,yv⟩=false):=h! (by simp only [alikeT,q3];simp)
  go_wp2
  go_ret
  exact ⟨by rw [HRES.out];rfl,HW.out⟩
 have HQ3:=h! q3
 go_wp2_with fail
 refine (sameLists (HA1.out.below HW.out) (HA2.out.below HW.out)).mono ?_
 rintro e w3 ⟨rfl,hb⟩
 have HRES:Hid (alikeT ⟨x0,x1,x2,xo,xa,x5,x6,xv⟩ ⟨y0,y1,y2,yo,ya,y5,y6,yv⟩=decide (xa=ya)):=h! (by simp only [alikeT,q3,q0,q1,q2];simp)
 clear lB2 cB2 fB2 lB3 cB3 fB3
 replace B2:=h! (B2.out.later hb)
 replace B3:=h! (B3.out.later hb)
 replace HW:=h! (HW.out.trans (hb.mono HW.out.size))
 clear hb
 obtain ⟨lB2,cB2,fB2⟩:=B2.out
 obtain ⟨lB3,cB3,fB3⟩:=B3.out
 go_wp2
 go_ret
 exact ⟨by rw [HRES.out];rfl,HW.out⟩
theorem refSameT {w:World} {v v' : Value} {t u:TraceD} (ht:TraceV w v t) (hu:TraceV w v' u):Calls Tryz.prog 27 #[v,v'] w (TellsR (sameT t u) w):=by
 have HT:=h! ht
 have HU:=h! hu
 rcases t with ⟨x0,x1,x2,xo,xa,x5,x6,xv⟩
 rcases u with ⟨y0,y1,y2,yo,ya,y5,y6,yv⟩
 obtain ⟨o1,a1,v1,rfl,ho1,ha1,hv1⟩:=ht
 obtain ⟨o2,a2,v2,rfl,ho2,ha2,hv2⟩:=hu
 simp only at ho1 ha1 hv1 ho2 ha2 hv2 HT HU ⊢
 have HO1:=h! hv1
 have HO2:=h! hv2
 obtain ⟨b1,c1,rfl⟩:=ho1.form
 obtain ⟨b2,c2,rfl⟩:=ho2.form
 obtain ⟨b3,c3,rfl⟩:=hv1.form
 obtain ⟨b4,c4,rfl⟩:=hv2.form
 obtain ⟨_,b5,c5,_,_,rfl, -, -, -, -, -, -⟩:=ha1.parts
 obtain ⟨_,b6,c6,_,_,rfl, -, -, -, -, -, -⟩:=ha2.parts
 clear ho1 ho2 ha1 ha2 hv1 hv2
 go_enter Tryz.func27,Tryz.ntmps27
 go_upto_region 1 with (fail)
 have B2:Hid (Box ((w.alloc (.cells #[.int .i64 x0,.int .i64 x1,.int .i64 x2,.slice b1 xo.length c1,.slice b5 xa.length c5,.int .i64 x5,.int .i64 x6,.slice b3 xv.length c3] 49)).alloc (.cells #[.int .i64 y0,.int .i64 y1,.int .i64 y2,.slice b2 yo.length c2,.slice b6 ya.length c6,.int .i64 y5,.int .i64 y6,.slice b4 yv.length c4] 49)) (w.heap.size) #[.int .i64 x0,.int .i64 x1,.int .i64 x2,.slice b1 xo.length c1,.slice b5 xa.length c5,.int .i64 x5,.int .i64 x6,.slice b3 xv.length c3]):=h! (by simpa using ((Box.new w #[.int .i64 x0,.int .i64 x1,.int .i64 x2,.slice b1 xo.length c1,.slice b5 xa.length c5,.int .i64 x5,.int .i64 x6,.slice b3 xv.length c3] 49).alloc _))
 have B3:Hid (Box ((w.alloc (.cells #[.int .i64 x0,.int .i64 x1,.int .i64 x2,.slice b1 xo.length c1,.slice b5 xa.length c5,.int .i64 x5,.int .i64 x6,.slice b3 xv.length c3] 49)).alloc (.cells #[.int .i64 y0,.int .i64 y1,.int .i64 y2,.slice b2 yo.length c2,.slice b6 ya.length c6,.int .i64 y5,.int .i64 y6,.slice b4 yv.length c4] 49)) (w.heap.size+1) #[.int .i64 y0,.int .i64 y1,.int .i64 y2,.slice b2 yo.length c2,.slice b6 ya.length c6,.int .i64 y5,.int .i64 y6,.slice b4 yv.length c4]):=h! (by simpa using (Box.new (w.alloc (.cells #[.int .i64 x0,.int .i64 x1,.int .i64 x2,.slice b1 xo.length c1,.slice b5 xa.length c5,.int .i64 x5,.int .i64 x6,.slice b3 xv.length c3] 49)) #[.int .i64 y0,.int .i64 y1,.int .i64 y2,.slice b2 yo.length c2,.slice b6 ya.length c6,.int .i64 y5,.int .i64 y6,.slice b4 yv.length c4] 49))
 have HW:Hid (Below w.heap.size w ((w.alloc (.cells #[.int .i64 x0,.int .i64 x1,.int .i64 x2,.slice b1 xo.length c1,.slice b5 xa.length c5,.int .i64 x5,.int .i64 x6,.slice b3 xv.length c3] 49)).alloc (.cells #[.int .i64 y0,.int .i64 y1,.int .i64 y2,.slice b2 yo.length c2,.slice b6 ya.length c6,.int .i64 y5,.int .i64 y6,.slice b4 yv.length c4] 49))):=h! (((Below.refl _ _).alloc (Nat.le_refl _) _).alloc (by simp) _)
 generalize ((w.alloc (.cells #[.int .i64 x0,.int .i64 x1,.int .i64 x2,.slice b1 xo.length c1,.slice b5 xa.length c5,.int .i64 x5,.int .i64 x6,.slice b3 xv.length c3] 49)).alloc (.cells #[.int .i64 y0,.int .i64 y1,.int .i64 y2,.slice b2 yo.length c2,.slice b6 ya.length c6,.int .i64 y5,.int .i64 y6,.slice b4 yv.length c4] 49))=wv at *
 obtain ⟨lB2,cB2,fB2⟩:=B2.out
 obtain ⟨lB3,cB3,fB3⟩:=B3.out
 go_wp2_with fail
 refine (refAlike (HT.out.below HW.out) (HU.out.below HW.out)).mono ?_
 rintro e w2 ⟨rfl,hb⟩
 clear lB2 cB2 fB2 lB3 cB3 fB3
 replace B2:=h! (B2.out.later hb)
 replace B3:=h! (B3.out.later hb)
 replace HW:=h! (HW.out.trans (hb.mono HW.out.size))
 clear hb
 obtain ⟨lB2,cB2,fB2⟩:=B2.out
 obtain ⟨lB3,cB3,fB3⟩:=B3.out
 obtain ⟨r,hr⟩ : ∃ r,r=alikeT ⟨x0,x1,x2,xo,xa,x5,x6,xv⟩ ⟨y0,y1,y2,yo,ya,y5,y6,yv⟩:=⟨_,rfl⟩
 have HD:Hid (sameT ⟨x0,x1,x2,xo,xa,x5,x6,xv⟩ ⟨y0,y1,y2,yo,ya,y5,y6,yv⟩=(r && (x5 == y5) && (x6 == y6) && decide (xv=yv))):=h! (by rw [hr];rfl)
 rw [<-hr]
 clear hr
 cases r
 ·have HRES:Hid (sameT ⟨x0,x1,x2,xo,xa,x5,x6,xv⟩ ⟨y0,y1,y2,yo,ya,y5,y6,yv⟩=false):=h! (by rw [HD.out];rfl)
  go_wp2
  go_ret
  exact ⟨by rw [HRES.out];rfl,HW.out⟩
 cases q1:(x5 == y5)
 ·have HRES:Hid (sameT ⟨x0,x1,x2,xo,xa,x5,x6,xv⟩ ⟨y0,y1,y2,yo,ya,y5,y6,yv⟩=false):=h! (by rw [HD.out,q1];rfl)
  go_wp2
  go_ret
  exact ⟨by rw [HRES.out];rfl,HW.out⟩
 cases q2:(x6 == y6)
 ·have HRES:Hid (sameT ⟨x0,x1,x2,xo,xa,x5,x6,xv⟩ ⟨y0,y1,y2,yo,ya,y5,y6,yv⟩=false):=h! (by rw [HD.out,q1,q2];rfl)
  go_wp2
  go_ret
  exact ⟨by rw [HRES.out];rfl,HW.out⟩
 have HD2:Hid (sameT ⟨x0,x1,x2,xo,xa,x5,x6,xv⟩ ⟨y0,y1,y2,yo,ya,y5,y6,yv⟩=decide (xv=yv)):=h! (by rw [HD.out,q1,q2];rfl)
 go_wp2_with fail
 refine (sameInts (HO1.out.below HW.out) (HO2.out.below HW.out)).mono ?_
 rintro e w3 ⟨rfl,n,rfl⟩
 have hb:=below_drew w2 n
 generalize w2.drewN n=w3 at *
 clear lB2 cB2 fB2 lB3 cB3 fB3
 replace B2:=h! (B2.out.later hb)
 replace B3:=h! (B3.out.later hb)
 replace HW:=h! (HW.out.trans (hb.mono HW.out.size))
 clear hb
 obtain ⟨lB2,cB2,fB2⟩:=B2.out
 obtain ⟨lB3,cB3,fB3⟩:=B3.out
 have HRES:=HD2
 go_wp2
 go_ret
 exact ⟨by rw [HRES.out];rfl,HW.out⟩
theorem simplest_fault:FaultR simplest 0 0:=by
 refine .inr ⟨fun d hd => ?_,.inr ⟨fun d y hy => ?_,.inr ⟨fun v hv => ?_,rfl,rfl⟩⟩⟩
 ·have h1:d < 1:=hd
  obtain rfl:d=0:=by omega
  exact .zero (by decide)
 ·have h1:=(List.getElem?_eq_some_iff.1 hy).1
  have h2:d < 1:=h1
  obtain rfl:d=0:=by omega
  have h3:some (⟨[],[⟨1,0,[],5⟩],⟨3,0,[],0⟩⟩ : BlockD)=some y:=hy
  injection h3 with h3
  rw [<-h3];rfl
 ·have h9:∀ v ∈ uxF simplest,v.id=0/\v.blk=0/\v.pos=1:=by decide
  obtain ⟨h1,h2,h3⟩:=h9 v hv
  exact ⟨0,0,by rw [h1,entF_simplest];rfl,.inr ⟨by omega,.inl ⟨h2.symm,by omega⟩⟩⟩
theorem simplest_run:∃ s1,blockR simplest 9 (-1) 0 (startS simplest ⟨[],[]⟩) = .over ⟨1,5,0⟩ s1/\s1.steps=2:=⟨_,rfl,rfl⟩
theorem simplest_trace {t:TraceD} (h:RunP simplest ⟨[],[]⟩ 9 t):t.how=1/\t.value=5/\t.steps=2:=by
 rcases h with ⟨-,hn⟩ | ⟨-, -, -,o,s,hr,rfl⟩
 ·exact absurd ⟨simplest_ok.1,simplest_fault,by omega⟩ hn
 ·obtain ⟨s1,h1,h2⟩:=simplest_run
  obtain ⟨rfl,rfl⟩:=hr.one (Runs.over h1)
  exact ⟨rfl,rfl,by show ((s.steps:Nat):Int)=2;rw [h2];rfl⟩
theorem awake6 {w:World}:Calls Tryz.prog 26 #[] w (TellsR true w):=by
 go_enter Tryz.func26,Tryz.ntmps26
 go_wp2_with fail
 have B0:Hid (Box ((w.alloc (.cells #[.int .i64 1,.int .i64 0,.slice none 0 0,.int .i64 5] 87)).alloc (.cells #[.slice none 0 0,.slice (some ⟨w.heap.size,0,none⟩) 1 1,.int .i64 3,.int .i64 0,.slice none 0 0,.int .i64 0] 75)) (w.heap.size) #[.int .i64 1,.int .i64 0,.slice none 0 0,.int .i64 5]):=h! (by simpa using ((Box.new w #[.int .i64 1,.int .i64 0,.slice none 0 0,.int .i64 5] 87).alloc _))
 have B1:Hid (Box ((w.alloc (.cells #[.int .i64 1,.int .i64 0,.slice none 0 0,.int .i64 5] 87)).alloc (.cells #[.slice none 0 0,.slice (some ⟨w.heap.size,0,none⟩) 1 1,.int .i64 3,.int .i64 0,.slice none 0 0,.int .i64 0] 75)) (w.heap.size+1) #[.slice none 0 0,.slice (some ⟨w.heap.size,0,none⟩) 1 1,.int .i64 3,.int .i64 0,.slice none 0 0,.int .i64 0]):=h! (by simpa using (Box.new (w.alloc (.cells #[.int .i64 1,.int .i64 0,.slice none 0 0,.int .i64 5] 87)) #[.slice none 0 0,.slice (some ⟨w.heap.size,0,none⟩) 1 1,.int .i64 3,.int .i64 0,.slice none 0 0,.int .i64 0] 75))
 have HW:Hid (Below w.heap.size w ((w.alloc (.cells #[.int .i64 1,.int .i64 0,.slice none 0 0,.int .i64 5] 87)).alloc (.cells #[.slice none 0 0,.slice (some ⟨w.heap.size,0,none⟩) 1 1,.int .i64 3,.int .i64 0,.slice none 0 0,.int .i64 0] 75))):=h! (((Below.refl _ _).alloc (Nat.le_refl _) _).alloc (by simp) _)
 generalize ((w.alloc (.cells #[.int .i64 1,.int .i64 0,.slice none 0 0,.int .i64 5] 87)).alloc (.cells #[.slice none 0 0,.slice (some ⟨w.heap.size,0,none⟩) 1 1,.int .i64 3,.int .i64 0,.slice none 0 0,.int .i64 0] 75))=wv at *
 obtain ⟨lB0,cB0,fB0⟩:=B0.out
 obtain ⟨lB1,cB1,fB1⟩:=B1.out
 refine (runC (i:=⟨[],[]⟩) (simplest_val B0.out B1.out) ⟨_,_,rfl,Ints.nil,⟨[],rfl,Row.nil,fun j hj=>absurd hj (by show ¬ j < 0;omega)⟩⟩ ⟨by decide,by decide⟩).mono ?_
 rintro e w2 ⟨v,t,rfl,hp,ht,hb⟩
 obtain ⟨p1,p2,p3⟩:=simplest_trace hp
 obtain ⟨ov,av,vv,rfl,ho,ha,hv⟩:=ht
 obtain ⟨b1,c1,rfl⟩:=ho.form
 obtain ⟨b3,c3,rfl⟩:=hv.form
 obtain ⟨_,b5,c5,_,_,rfl, -, -, -, -, -, -⟩:=ha.parts
 rw [p1,p2,p3]
 clear ho ha hv hp p1 p2 p3
 clear lB0 cB0 fB0 lB1 cB1 fB1
 replace B0:=h! (B0.out.later hb)
 replace B1:=h! (B1.out.later hb)
 replace HW:=h! (HW.out.trans (hb.mono HW.out.size))
 clear hb
 obtain ⟨lB0,cB0,fB0⟩:=B0.out
 obtain ⟨lB1,cB1,fB1⟩:=B1.out
 clear lB0 cB0 fB0 lB1 cB1 fB1
 go_wp2
 go_ret
 exact ⟨rfl,HW.out.alloc HW.out.size _⟩
theorem opens_lists:Opens Tryz.prog 42 (SliceR IntsR 1):=opens_slice Tryz.underlying42 (by kernel_rfl) (by kernel_rfl) (by omega) (Nat.le_of_ble_eq_true rfl:8 <= 24) opens_ints
theorem lists_of {W:World} {v:Value} {xs:List (List Int)} (h:SliceOf IntsR 1 W v xs):Lists W v xs:=by
 obtain ⟨cs,h1,h2⟩:=h
 have hl:=h1.len
 refine ⟨cs,by omega,h1,fun j hj => ?_⟩
 obtain ⟨u,hu,hI⟩:=h2 j _ (List.getElem?_eq_getElem hj)
 have hc0:cs[j]? = some u:=by
  have h9:=congrArg (fun l:List Value=>l[0]?) hu
  simp only [List.getElem?_take,List.getElem?_drop,Nat.mul_one,Nat.add_zero] at h9
  simpa using h9
 have e1:cs.getD j undef=u:=by rw [List.getD_eq_getElem?_getD,hc0];rfl
 have e2:xs.getD j []=xs[j]:=by rw [List.getD_eq_getElem?_getD,List.getElem?_eq_getElem hj];rfl
 rw [e1,e2]
 exact hI
def InputR (W:World) (cs:List Value) (i:InputD):Prop := ∃ a b,cs=[a,b]/\Ints W a i.args/\Lists W b i.arrays
theorem opens_input:Opens Tryz.prog 44 InputR :=
 (opens_struct2 Tryz.underlying44 (s0:=1) (s1:=1) (by kernel_rfl) rfl rfl (by kernel_rfl) (by kernel_rfl) opens_ints opens_lists).mono
  fun W cs y ⟨d0,d1,e,_,⟨v,e0,h0⟩,u,e1,h1⟩=>⟨⟨y.1,y.2⟩,v,u,by rw [e,e0,e1];rfl,h0,lists_of h1⟩
set_option maxRecDepth 100000 in
theorem get_input {H:Type} {enc:TypeId × Value -> H} {W:World} {v:Value} {d:DataW H} {ps:List MemPlace} {base:Nat} (hval:Value.okWide Tryz.prog W .any base 44 v)
  (h:DataW.Trod enc Tryz.prog W 0 (fun _=>true) true 44 v d ps) (hz:∀ n ∈ d.weights Tryz.prog 44,n <= reachBytes):∃ i:InputD,InputV W v i:=by
 obtain ⟨cs,i,hv,hf⟩:=open_struct_val Tryz.underlying44 opens_input hval h hz
 obtain ⟨a,b,e,r⟩:=hf
 refine ⟨i,a,b, ?_,r⟩
 rw [hv, <-Array.toArray_toList (xs:=cs),e]
theorem FuncV.later {W W' : World} {v:Value} {f:FuncD} (h:FuncV W v f) (hb:Below W.heap.size W W'):FuncV W' v f:=h.below hb
theorem FuncV.alloc {W:World} {v:Value} {f:FuncD} (h:FuncV W v f) (o:Obj):FuncV (W.alloc o) v f:=h.below ((Below.refl _ _).alloc (Nat.le_refl _) o)
theorem fault_zero {f:FuncD} {b:Int} (h:FaultR f b 0):FaultR f 0 0:=by
 have h0:=h
 unfold FaultR at h
 rcases h with ⟨c, -, -, -, -,h⟩ | ⟨h1,⟨c,x, -, -, -, -,h⟩ | ⟨h2,⟨i,u, -, -, -, -,h⟩ | ⟨h3,rfl, -⟩⟩⟩
 ·cases h
 ·cases h
 ·cases h
 ·exact h0
def SErr (f:FuncD) (k:Int):Prop:=(checkF f ≠ 0/\k=checkF f) \/ (checkF f=0 /\ ∃ b,FaultR f b k)
theorem SErr.one {f:FuncD} {k k' : Int} (h:SErr f k) (h' : SErr f k'):k=k':=by
 rcases h with ⟨h1,rfl⟩ | ⟨h1,b,h2⟩
 ·rcases h' with ⟨_,rfl⟩ | ⟨h3,_⟩
  ·rfl
  ·exact absurd h3 h1
 ·rcases h' with ⟨h3,_⟩ | ⟨_,b',h4⟩
  ·exact absurd h1 h3
  ·exact (fault_one h2 h4).2
theorem SErr.of_check {f:FuncD} {b k:Int} (h1:checkF f ≠ 0 -> b=0/\k=checkF f) (h2:checkF f=0 -> FaultR f b k):SErr f k:=by
 by_cases h:checkF f=0
 ·exact .inr ⟨h,b,h2 h⟩
 ·exact .inl ⟨h,(h1 h).2⟩
theorem SErr.zero {f:FuncD} (h:SErr f 0):checkF f=0/\FaultR f 0 0:=by
 rcases h with ⟨h1,h2⟩ | ⟨h1,b,h2⟩
 ·exact absurd h2.symm h1
 ·exact ⟨h1,fault_zero h2⟩
def IsR (f:FuncD) (w:World) (e:Ending) (w' : World):Prop := ∃ k:Bool,e = .returned (.bool k)/\(k=true ↔ checkF f=0/\FaultR f 0 0)/\Below w.heap.size w w'
theorem refIs {w:World} {v:Value} {f:FuncD} (hv:FuncV w v f):Calls Tryz.prog 23 #[v] w (IsR f w):=by
 have HV:=h! hv
 obtain ⟨ap,cp,ab,cb,rfl, -, -, -, -⟩:=hv.form
 clear hv
 go_enter Tryz.func23,Tryz.ntmps23
 go_upto_region 1 with (fail)
 have B1:Hid (Box (w.alloc (.cells #[.slice ap f.params.length cp,.int .i64 f.arrays,.int .i64 f.cells,.slice ab f.blocks.length cb] 25)) (w.heap.size) #[.slice ap f.params.length cp,.int .i64 f.arrays,.int .i64 f.cells,.slice ab f.blocks.length cb]):=h! (by simpa using (Box.new w #[.slice ap f.params.length cp,.int .i64 f.arrays,.int .i64 f.cells,.slice ab f.blocks.length cb] 25))
 have HW:Hid (Below w.heap.size w (w.alloc (.cells #[.slice ap f.params.length cp,.int .i64 f.arrays,.int .i64 f.cells,.slice ab f.blocks.length cb] 25))):=h! ((Below.refl _ _).alloc (Nat.le_refl _) _)
 generalize (w.alloc (.cells #[.slice ap f.params.length cp,.int .i64 f.arrays,.int .i64 f.cells,.slice ab f.blocks.length cb] 25))=wv at *
 obtain ⟨lB1,cB1,fB1⟩:=B1.out
 go_wp2_with fail
 refine (refCheck5 (HV.out.below HW.out)).mono ?_
 rintro e w2 ⟨b,g,rfl,h1,h2,hb⟩
 have HS:=h! (SErr.of_check h1 h2)
 clear h1 h2
 clear lB1 cB1 fB1
 replace B1:=h! (B1.out.later hb)
 replace HW:=h! (HW.out.trans (hb.mono HW.out.size))
 clear hb
 obtain ⟨lB1,cB1,fB1⟩:=B1.out
 by_cases hg:g=0
 ·have HG:Hid (checkF f=0/\FaultR f 0 0):=h! (by have h9:=HS.out;rw [hg] at h9;exact h9.zero)
  have hq:(g == 0)=true:=by simpa using hg
  clear hg
  go_wp2
  go_ret
  exact ⟨true,rfl,⟨fun _=>HG.out,fun _=>rfl⟩,HW.out⟩
 ·have HG:Hid (¬ (checkF f=0/\FaultR f 0 0)):=h! (fun h=>hg (HS.out.one (.inr ⟨h.1,0,h.2⟩)))
  have hq:(g == 0)=false:=by simpa using hg
  clear hg
  go_wp2
  go_ret
  exact ⟨false,rfl,⟨fun h=>absurd h (by simp),fun h=>absurd h HG.out⟩,HW.out⟩
end Go.Proofs.YtgmhnepmkaonaaaGreat
