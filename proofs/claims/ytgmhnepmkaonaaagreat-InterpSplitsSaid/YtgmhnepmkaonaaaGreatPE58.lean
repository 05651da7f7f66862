/- Part 58. -/
import Derived.Test.YtgmhnepmkaonaaaGreatPE7
import Derived.Test.YtgmhnepmkaonaaaGreatPE39
import Derived.Test.YtgmhnepmkaonaaaGreatPE53
import Derived.OwnWalk
import Derived.Test.YtgmhnepmkaonaaaGreatPE34
namespace Go.Proofs.YtgmhnepmkaonaaaGreat
set_option maxHeartbeats 12800000
set_option linter.all false
section
open Go.RowKit
def Cap {α : Type} (fuel:Nat) (r:Res α):Prop:=r.st.steps <= fuel
theorem tI {fuel:Nat} {s:RunS} (h:s.steps <= fuel):Cap fuel (gK fuel s):=by
 unfold Cap gK
 split
 ·exact h
 show s.steps+1 <= fuel;omega
theorem nI {α β : Type} {fuel:Nat} {r:Res α} {k : α -> RunS -> Res β} (h:Cap fuel r) (hk:∀ x s1,s1.steps <= fuel -> Cap fuel (k x s1)):Cap fuel (r.bind k):=by
 cases r with
 | go x s1=>exact hk x s1 h
 | over o s1=>exact h
theorem vX {α : Type} {fuel:Nat} {r:Res α} {s:RunS} (h:Idle 0 s r.st) (hs:s.steps <= fuel):Cap fuel r:=by
 have:=h.2.2
 unfold Cap;omega
theorem aEA {fuel:Nat} (x:InstrD) {s:RunS} (h:s.steps <= fuel):Cap fuel (oneS fuel x s):=by
 unfold oneS
 refine nI (tI h) fun _ s1 h1=>nI (vX (oX x s1) h1) fun v s2 h2 => ?_
 have:=(sE x v s2).2.2
 show (putS x v s2).steps <= fuel
 omega
theorem pO {fuel:Nat}:∀ (xs:List InstrD) {s:RunS},s.steps <= fuel -> Cap fuel (gW fuel xs s)
 | [],s,h=>h
 | x :: xs,s,h=>nI (aEA x h) fun _ s1 h1=>pO xs h1
theorem y8 {f:FuncD} {fuel:Nat} (src:Int) (at_:Nat) {s:RunS} (h:s.steps <= fuel):Cap fuel (fY f fuel src at_ s):=by
 unfold fY
 have h0:Idle 0 (f6 at_ s) (kO (f.blocks.getD at_ default) src (f6 at_ s)):=lX _ _
 refine nI (pO _ ?_) fun _ s1 h1=>nI (tI h1) fun _ s2 h2=>vX (sF _ s2) h2
 have h1:=h0.2.2
 have e:(f6 at_ s).steps=s.steps:=rfl
 omega
theorem vY {f:FuncD} {fuel:Nat}:∀ {n:Nat} {src:Int} {at_:Nat} {s s' : RunS} {o:OverD},s.steps <= fuel -> runN f fuel n src at_ s=some (o,s') -> s'.steps <= fuel
 | 0,_,_,_,_,_,_,h=>by simp [runN] at h
 | n+1,src,at_,s,s',o,hs,h=>by
  have hx:=y8 (f:=f) src at_ hs
  unfold runN at h
  cases hb:fY f fuel src at_ s with
  | over o1 s1 =>
   rw [hb] at h hx
   injection h with e
   injection e with e1 e2
   rw [<-e2];exact hx
  | go to s1 =>
   rw [hb] at h hx
   exact vY hx h
def rP (s:RunS):List Nat:=s.arrays.map List.length
def Fair (s s' : RunS):Prop:=s'.out.length+s'.checks+s.steps <= s.out.length+s.checks+s'.steps/\rP s' = rP s
theorem Fair.refl (s:RunS):Fair s s:=⟨aB _,rfl⟩
theorem Fair.trans {a b c:RunS} (h:Fair a b) (k:Fair b c):Fair a c:=⟨by have:=h.1;have:=k.1;omega,k.2.trans h.2⟩
def OvF (o:OverD):Prop:=1 <= o.how/\o.how <= 5/\(o.how=2 \/ o.trap=0)/\(o.how=1 \/ o.value=0)
def nJ {α : Type} (s:RunS) (r:Res α):Prop:=Fair s r.st /\ ∀ o s',r = .over o s' -> OvF o
theorem nJ.go {α : Type} {s s' : RunS} {a : α} (h:Fair s s'):nJ s (.go a s'):=⟨h,fun o s' e=>by cases e⟩
theorem nJ.over {α : Type} {s s' : RunS} {o:OverD} (h:Fair s s') (ho:OvF o):nJ (α := α) s (.over o s'):=⟨h,fun o s' e=>by cases e;exact ho⟩
theorem nJ.bind {α β : Type} {s:RunS} {r:Res α} {k : α -> RunS -> Res β} (h:nJ s r) (hk:∀ a s1,r = .go a s1 -> nJ s1 (k a s1)):nJ s (r.bind k):=by
 cases r with
 | go a s1 =>
  have h2:=hk a s1 rfl
  exact ⟨h.1.trans h2.1,h2.2⟩
 | over o s1=>exact ⟨h.1,fun o' s' e=>by cases e;exact h.2 _ _ rfl⟩
def aGP (s:RunS) (r:Res Int):Prop:=r.st.steps=s.steps/\r.st.out.length+r.st.checks <= s.out.length+s.checks+1/\rP r.st=rP s /\ ∀ o s',r = .over o s' -> OvF o
theorem y9 (op:Int):OvF (pL op):=by
 unfold pL
 split
 ·exact ⟨by decide,by decide,.inl rfl,.inr rfl⟩
 exact ⟨by decide,by decide,.inr rfl,.inr rfl⟩
theorem zA (op:Int) (s:RunS):(fW op s).steps=s.steps/\(fW op s).out=s.out/\(fW op s).checks <= s.checks+1/\(fW op s).arrays=s.arrays:=by
 unfold fW
 split
 ·exact ⟨rfl,rfl,aB _,rfl⟩
 exact ⟨rfl,rfl,Nat.le_succ _,rfl⟩
theorem uT (xs:List (List Int)) (i j:Nat) (v:Int):(xs.modify i fun a=>a.set j v).map List.length=xs.map List.length:=by
 apply bJ
 intro k
 rw [aN,aN,dQ]
 cases xs[k]? with
 | none=>rfl
 | some a =>
  simp only [cG]
  split
  ·simp
  rfl
theorem uU (x:InstrD) (s:RunS):aGP s (fE x s):=by
 have same:∀ v,aGP s (.go v s):=fun v=>⟨rfl,Nat.le_succ _,rfl,fun o s' e=>by cases e⟩
 obtain ⟨l1,l2,l3,l4⟩:=zA x.op s
 have wild:aGP s (.over (pL x.op) (fW x.op s)):=⟨l1,by show (fW x.op s).out.length+(fW x.op s).checks <= _;rw [l2];omega,by show (fW x.op s).arrays.map _=_;rw [l4];rfl,fun o s' e=>by cases e;exact y9 _⟩
 unfold fE
 split
 ·exact same _
 split
 ·exact same _
 split
 ·rcases jN x.op x.n ((x.args.map s.vals).getD 0 0) s with h | h
  ·rw [h];exact wild
  rw [h];exact ⟨l1,by show (fW x.op s).out.length+(fW x.op s).checks <= _;rw [l2];omega,by show (fW x.op s).arrays.map _=_;rw [l4];rfl,fun o s' e=>by cases e⟩
 split
 ·rcases jN x.op x.n ((x.args.map s.vals).getD 0 0) s with h | h
  ·rw [h];exact wild
  rw [h]
  refine ⟨l1,by show (fW x.op s).out.length+(fW x.op s).checks <= _;rw [l2];omega, ?_,fun o s' e=>by cases e⟩
  show ((fW x.op s).arrays.modify x.n.toNat fun a=>a.set ((x.args.map s.vals).getD 0 0).toNat ((x.args.map s.vals).getD 1 0)).map List.length=_
  rw [uT,l4];rfl
 split
 ·split
  ·exact ⟨rfl,Nat.le_succ _,rfl,fun o s' e=>by cases e;exact ⟨by show (1:Int) <= 4;omega,by show (4:Int) <= 5;omega,.inr rfl,.inr rfl⟩⟩
  exact ⟨rfl,by show (s.out ++ [(x.args.map s.vals).getD 0 0]).length+s.checks <= _;rw [aM];simp only [bB,cD];omega,rfl,fun o s' e=>by cases e⟩
 split
 ·exact same _
 split
 ·exact ⟨rfl,Nat.le_succ _,rfl,fun o s' e=>by cases e⟩
 split
 ·exact ⟨rfl,Nat.le_succ _,rfl,fun o s' e=>by cases e;exact ⟨by show (1:Int) <= 2;omega,by show (2:Int) <= 5;omega,.inl rfl,.inr rfl⟩⟩
 exact same _
theorem aCK (x:InstrD) (v:Int) (s:RunS):Fair s (putS x v s):=by
 unfold putS
 split
 ·exact ⟨aB _,rfl⟩
 exact Fair.refl s
theorem aCL (fuel:Nat) (x:InstrD) (s:RunS):nJ s (oneS fuel x s):=by
 unfold oneS gK
 split
 ·exact .over (Fair.refl s) ⟨by show (1:Int) <= 3;omega,by show (3:Int) <= 5;omega,.inr rfl,.inr rfl⟩
 obtain ⟨h1,h2,h3,h4⟩:=uU x { s with steps:=s.steps+1 }
 have key:Fair s (fE x { s with steps:=s.steps+1 }).st:=by
  refine ⟨?_,h3⟩
  rw [h1]
  have h5:(fE x { s with steps:=s.steps+1 }).st.out.length+(fE x { s with steps:=s.steps+1 }).st.checks <= s.out.length+s.checks+1:=h2
  show _+s.steps <= _+(s.steps+1)
  omega
 exact nJ.bind (r:=fE x { s with steps:=s.steps+1 }) (k:=fun v s2=>.go () (putS x v s2)) ⟨key,h4⟩ fun v s1 _=>.go (aCK x v s1)
theorem qP (fuel:Nat):∀ (xs:List InstrD) (s:RunS),nJ s (gW fuel xs s)
 | [],s=>.go (Fair.refl s)
 | x :: xs,s=>(aCL fuel x s).bind fun _ s1 _=>qP fuel xs s1
theorem qQ:∀ (pv:List (PhiD × Int)) (s:RunS),Fair s (kZ s pv)
 | [],s=>Fair.refl s
 | q :: pv,s=>(show Fair s (setV s q.1.id q.2) from ⟨aB _,rfl⟩).trans (qQ pv _)
theorem zB (fuel:Nat) (s:RunS):nJ s (gK fuel s):=by
 unfold gK
 split
 ·exact .over (Fair.refl s) ⟨by show (1:Int) <= 3;omega,by show (3:Int) <= 5;omega,.inr rfl,.inr rfl⟩
 exact .go ⟨by show s.out.length+s.checks+s.steps <= s.out.length+s.checks+(s.steps+1);omega,rfl⟩
theorem aCM (t:TermD) (s:RunS):nJ s (endR t s):=by
 unfold endR
 split
 ·exact .over (Fair.refl s) ⟨by show (1:Int) <= 1;omega,by show (1:Int) <= 5;omega,.inr rfl,.inl rfl⟩
 split
 ·exact .over (Fair.refl s) ⟨by show (1:Int) <= 2;omega,by show (2:Int) <= 5;omega,.inl rfl,.inr rfl⟩
 split
 ·exact .go (Fair.refl s)
 exact .go (Fair.refl s)
theorem uV (f:FuncD) (fuel:Nat) (src:Int) (a:Nat) (s:RunS):nJ s (fY f fuel src a s):=by
 have h1:Fair s (kO (f.blocks.getD a default) src (f6 a s)):=(show Fair s (f6 a s) from ⟨aB _,rfl⟩).trans (qQ _ _)
 have h2:=(qP fuel (f.blocks.getD a default).code (kO (f.blocks.getD a default) src (f6 a s))).bind (k:=fun _ s1=>(gK fuel s1).bind fun _ s2=>endR (f.blocks.getD a default).term s2) fun _ s1 _=>(zB fuel s1).bind fun _ s2 _=>aCM _ s2
 exact ⟨h1.trans h2.1,h2.2⟩
theorem tJ {f:FuncD} {fuel:Nat}:∀ {n:Nat} {src:Int} {a:Nat} {s s' : RunS} {o:OverD},runN f fuel n src a s=some (o,s') -> Fair s s' /\ OvF o
 | 0,_,_,_,_,_,h=>by simp [runN] at h
 | n+1,src,a,s,s',o,h=>by
  have hb:=uV f fuel src a s
  unfold runN at h
  cases hr:fY f fuel src a s with
  | over o1 s1 =>
   rw [hr] at h hb
   injection h with e
   injection e with e1 e2
   subst e1
   subst e2
   exact ⟨hb.1,hb.2 _ _ rfl⟩
  | go to s1 =>
   rw [hr] at h hb
   obtain ⟨k1,k2⟩:=tJ h
   exact ⟨hb.1.trans k1,k2⟩
theorem aEB {f:FuncD} {i:InputD} {fuel:Int} {t:TraceD} (hf:0 <= fuel/\fuel <= 2000) (h:RunP f i fuel t) :
  (t=rN /\ ¬ (d7 f=0/\fM f 0 0)) \/
  (t.how ≠ 6/\1 <= t.how/\t.how <= 5/\0 <= t.steps/\t.steps <= fuel/\(t.out.length:Int)+t.checks <= t.steps/\0 <= t.checks/\t.arrays.length=f.arrays.toNat/\(t.how=2 \/ t.trap=0)/\(t.how=1 \/ t.value=0) /\
   ∀ k:Nat,k < t.arrays.length -> (t.arrays.getD k []).length=min (i.arrays.getD k []).length 4096):=by
 rcases h with ⟨rfl,hn⟩ | ⟨hc,hF,h0,o,s,⟨n,hr⟩,rfl⟩
 ·exact .inl ⟨rfl,fun h=>hn ⟨h.1,h.2,hf.1⟩⟩
 ·obtain ⟨⟨k1,k2⟩,k3,k4,k5,k6⟩:=tJ hr
  have hcap:=vY (f:=f) (s:=lQ f i) (aO _) hr
  have hm:(min fuel 200000).toNat <= fuel.toNat:=by omega
  have k1' : s.out.length+s.checks+0 <= 0+0+s.steps:=k1
  have hl:s.arrays.length=f.arrays.toNat:=by
   have:=congrArg List.length k2
   unfold rP at this
   rw [bI,bI] at this
   rw [this]
   show ((List.range f.arrays.toNat).map _).length=_
   rw [bI,List.length_range]
  refine .inr ⟨by show o.how ≠ 6;omega,k3,k4,by show (0:Int) <= (s.steps:Int);omega,by show (s.steps:Int) <= fuel;omega,by show ((s.out.length:Int))+(s.checks:Int) <= (s.steps:Int);omega,by show (0:Int) <= (s.checks:Int);omega,hl,k5,k6,fun k hk => ?_⟩
  have hk2:k < s.arrays.length:=hk
  have e1:(rP s)[k]? = some ((s.arrays.getD k []).length):=by
   unfold rP
   rw [aN,aC hk2,aH,aC hk2];rfl
  have e2:(rP (lQ f i))[k]? = some (((i.arrays.getD k []).take 4096).length):=by
   unfold rP
   show (((List.range f.arrays.toNat).map fun k=>(i.arrays.getD k []).take 4096).map List.length)[k]? = _
   rw [aN,aN,eQ (by rw [<-hl];exact hk2)];rfl
  rw [k2,e2] at e1
  injection e1 with e1
  show (s.arrays.getD k []).length=_
  rw [<-e1,bA,Nat.min_comm]
def sh (d:Nat) (V:List Nat) (s:RunS):RunS := { s with steps:=s.steps+d,visits:=V }
def Res.map' {α : Type} (g:RunS -> RunS):Res α -> Res α
 | .go a s=>.go a (g s)
 | .over o s=>.over o (g s)
theorem Res.map'_bind {α β : Type} {g:RunS -> RunS} {r:Res α} {k : α -> RunS -> Res β} {k' : α -> RunS -> Res β} (h:∀ a s,r = .go a s -> k' a (g s)=(k a s).map' g):(r.map' g).bind k' = (r.bind k).map' g:=by
 cases r with
 | go a s=>exact h a s rfl
 | over o s=>rfl
theorem vZ (d:Nat) (V:List Nat) (op:Int) (s:RunS):fW op (sh d V s)=sh d V (fW op s):=by
 unfold fW
 split <;> rfl
theorem v6 (d:Nat) (V:List Nat) (op n i:Int) (s:RunS):j0 op n i (sh d V s)=(j0 op n i s).map' (sh d V):=by
 unfold j0
 show (if i < 0 \/ ((s.arrays.getD n.toNat []).length:Int) <= i then _ else _)=_
 split
 ·rw [vZ];rfl
 rw [vZ];rfl
theorem aCN (d:Nat) (V:List Nat) (x:InstrD) (s:RunS):fE x (sh d V s)=(fE x s).map' (sh d V):=by
 unfold fE
 split
 ·rfl
 split
 ·rfl
 split
 ·show (j0 x.op x.n ((x.args.map s.vals).getD 0 0) (sh d V s)).bind _=_
  rw [v6]
  exact Res.map'_bind fun a s1 _=>rfl
 split
 ·show (j0 x.op x.n ((x.args.map s.vals).getD 0 0) (sh d V s)).bind _=_
  rw [v6]
  exact Res.map'_bind fun a s1 _=>rfl
 split
 ·show (if s.out.length=4096 then _ else _)=_
  split <;> rfl
 split
 ·rfl
 split
 ·rfl
 split
 ·rename_i h
  have h2:nB x.op (x.args.map s.vals) ≠ 0:=h
  rw [if_pos h2];rfl
 rename_i h
 have h2:¬ nB x.op (x.args.map s.vals) ≠ 0:=h
 rw [if_neg h2];rfl
theorem aGQ (d:Nat) (V:List Nat) (x:InstrD) (v:Int) (s:RunS):putS x v (sh d V s)=sh d V (putS x v s):=by
 unfold putS
 split <;> rfl
theorem v8 {F F' d:Nat} (V:List Nat) {s:RunS} (h:s.steps ≠ F) (h' : s.steps+d ≠ F'):gK F' (sh d V s)=(gK F s).map' (sh d V):=by
 unfold gK
 rw [if_neg h,if_neg (show ¬ (sh d V s).steps=F' from h')]
 show Res.go () _=Res.go () _
 congr 1
 show ({ s with steps:=s.steps+d+1,visits:=V }:RunS) = { s with steps:=s.steps+1+d,visits:=V }
 rw [Nat.add_right_comm]
theorem aGR {F F' d:Nat} (V:List Nat) (x:InstrD) {s:RunS} (h:s.steps ≠ F) (h' : s.steps+d ≠ F'):oneS F' x (sh d V s)=(oneS F x s).map' (sh d V):=by
 unfold oneS
 rw [v8 V h h']
 refine Res.map'_bind fun _ s1 _ => ?_
 rw [aCN]
 refine Res.map'_bind fun v s2 _ => ?_
 rw [aGQ];rfl
def Fine {α : Type} (r:Res α):Prop := ∀ o s,r = .over o s -> o.how ≠ 3
theorem Fine.left {α β : Type} {r:Res α} {k : α -> RunS -> Res β} (h:Fine (r.bind k)):Fine r:=fun o s e=>by
 subst e
 exact h o s rfl
theorem Fine.right {α β : Type} {r:Res α} {k : α -> RunS -> Res β} (h:Fine (r.bind k)) {a : α} {s:RunS} (e:r = .go a s):Fine (k a s):=by
 subst e
 exact h
theorem qR {F:Nat} {s:RunS} (h:Fine (gK F s)):s.steps ≠ F:=fun e=>by
 refine h ⟨3,0,0⟩ s ?_ rfl
 unfold gK
 rw [if_pos e]
theorem zC {F:Nat} {x:InstrD} {s s1:RunS} {u:Unit} (h:oneS F x s = .go u s1):s1.steps=s.steps+1:=by
 unfold oneS gK at h
 split at h
 ·cases h
 have hq:=(tA x { s with steps:=s.steps+1 }).2.1
 simp only [Res.bind] at h
 cases hi:fE x { s with steps:=s.steps+1 } with
 | over o s2=>rw [hi] at h;cases h
 | go v s2 =>
  rw [hi] at h hq
  simp only [Res.go.injEq] at h
  rw [<-h.2]
  have:(putS x v s2).steps=s2.steps:=by unfold putS;split <;> rfl
  rw [this];exact hq
theorem wA {F F' d:Nat} (V:List Nat) (hF:F+d <= F'):∀ {xs:List InstrD} {s:RunS},s.steps <= F -> Fine (gW F xs s) -> gW F' xs (sh d V s)=(gW F xs s).map' (sh d V)
 | [],s,_,_=>rfl
 | x :: xs,s,hs,hf=>by
  have hne:s.steps ≠ F:=qR (Fine.left (Fine.left hf))
  show (oneS F' x (sh d V s)).bind _=((oneS F x s).bind _).map' _
  rw [aGR V x hne (by omega)]
  refine Res.map'_bind fun u s1 e => ?_
  exact wA V hF (by rw [zC e];omega) (Fine.right hf e)
theorem pP {b n:Int}:∀ {l:List Int},b ∈ l -> n ∉ l -> (l.set (l.idxOf b) n).idxOf n=l.idxOf b
 | c :: l,hb,hn=>by
  by_cases e:c=b
  ·subst e
   rw [List.idxOf_cons_self];simp
  have e1:(c == b)=false:=by simpa using e
  have hc:(c == n)=false:=by simp only [beq_eq_false_iff_ne];exact fun h=>hn (by rw [h];simp)
  have hb2:b ∈ l:=(bN.1 hb).resolve_left (fun h=>e h.symm)
  rw [eH,e1]
  simp only [cond_false,aF]
  rw [eH,hc]
  simp only [cond_false]
  rw [pP hb2 (fun h=>hn (bS _ h))]
theorem nK {b n s:Int} (hsb:s ≠ b) (hsn:s ≠ n):∀ {l:List Int},(l.set (l.idxOf b) n).idxOf s=l.idxOf s
 | []=>rfl
 | c :: l=>by
  by_cases e:c=b
  ·subst e
   have h1:(c == s)=false:=by simp only [beq_eq_false_iff_ne];exact fun h=>hsb h.symm
   have h2:(n == s)=false:=by simp only [beq_eq_false_iff_ne];exact fun h=>hsn h.symm
   rw [List.idxOf_cons_self,aE,eH,eH,h1,h2]
  have e1:(c == b)=false:=by simpa using e
  rw [eH,e1]
  simp only [cond_false,aF]
  rw [eH,eH,nK hsb hsn]
theorem aEC {b n src:Int} {still:Bool} {p:PhiD} {d:Nat} {V:List Nat} {s:RunS} (hs:src ∈ p.src) (hn:n ∉ p.src) (hst:src=b -> still=true) (hl:p.src.length=p.vals.length):phiV src (sh d V s) (fD b n still p)=phiV src s p:=by
 have hsn:src ≠ n:=fun e=>hn (by rw [<-e];exact hs)
 unfold fD
 split
 ·split
  ·show s.vals ((p.vals ++ [p.vals.getD (p.src.idxOf b) 0]).getD ((p.src ++ [n]).idxOf src) 0)=_
   have hi:p.src.idxOf src < p.vals.length:=by rw [<-hl];exact cM hs
   rw [List.idxOf_append,if_pos hs,aH,dC hi, <-List.getD_eq_getElem?_getD];rfl
  rename_i hne
  show s.vals (p.vals.getD ((p.src.set (p.src.idxOf b) n).idxOf src) 0)=_
  rw [nK (fun e=>hne (hst e)) hsn];rfl
 rfl
theorem aGS {b n:Int} {still:Bool} {p:PhiD} {d:Nat} {V:List Nat} {s:RunS} (hb:b ∈ p.src) (hn:n ∉ p.src) (hl:p.src.length=p.vals.length):phiV n (sh d V s) (fD b n still p)=phiV b s p:=by
 unfold fD
 rw [if_pos hb]
 split
 ·show s.vals ((p.vals ++ [p.vals.getD (p.src.idxOf b) 0]).getD ((p.src ++ [n]).idxOf n) 0)=_
  have h1:(p.src ++ [n]).idxOf n=p.vals.length:=by rw [List.idxOf_append,if_neg hn,List.idxOf_cons_self,hl];omega
  rw [h1,aH,bX (aB _)]
  simp
  rfl
 show s.vals (p.vals.getD ((p.src.set (p.src.idxOf b) n).idxOf n) 0)=_
 rw [pP hb hn];rfl
theorem wB (d:Nat) (V:List Nat):∀ {L L' : List (PhiD × Int)} {s:RunS},L'.map (fun q=>(q.1.id,q.2))=L.map (fun q=>(q.1.id,q.2)) -> kZ (sh d V s) L' = sh d V (kZ s L)
 | [],[],_,_=>rfl
 | [],_ :: _,_,h=>by simp at h
 | _ :: _,[],_,h=>by simp at h
 | q :: L,q' :: L',s,h=>by
  simp only [cQ,List.cons.injEq,Prod.mk.injEq] at h
  show kZ (setV (sh d V s) q'.1.id q'.2) L' = sh d V (kZ (setV s q.1.id q.2) L)
  rw [h.1.1,h.1.2]
  exact wB d V (s:=setV s q.1.id q.2) h.2
def aGT (b n:Int) (t:Nat) (still:Bool) (src src' : Int) (a:Nat):Prop:=(src' = src/\(a=t -> src=b -> still=true)) \/ (src=b/\src' = n/\a=t)
theorem aED {b n:Int} {t:Nat} {still:Bool} {src src' : Int} {a d:Nat} {V:List Nat} {s:RunS} {y y' : BlockD} (hE:aGT b n t still src src' a) (hp:∀ p ∈ y.phis,src ∈ p.src/\n ∉ p.src/\p.src.length=p.vals.length)
  (hy:y'.phis=if a=t then y.phis.map (fD b n still) else y.phis):kO y' src' (sh d V s)=sh d V (kO y src s):=by
 unfold kO
 refine wB d V ?_
 rw [cX,cX,hy]
 by_cases e:a=t
 ·rw [if_pos e,cX]
  refine dD fun p hpm => ?_
  obtain ⟨h1,h2,h3⟩:=hp p hpm
  show ((fD b n still p).id,phiV src' (sh d V s) (fD b n still p))=(p.id,phiV src s p)
  rw [(mN b n still p).1]
  congr 1
  rcases hE with ⟨rfl,h⟩ | ⟨rfl,rfl, -⟩
  ·exact aEC h1 h2 (h e) h3
  exact aGS h1 h2 h3
 ·rw [if_neg e]
  rcases hE with ⟨rfl,h⟩ | ⟨-, -,h⟩
  ·rfl
  exact absurd h e
section
variable {f:FuncD} {b k t:Nat} {still:Bool} {x:BlockD}
structure SplitB (f:FuncD) (b k t:Nat) (still:Bool) (a:Nat) (y y' : BlockD):Prop where
 phis:y'.phis=if a=t then y.phis.map (fD b f.blocks.length still) else y.phis
 code:y'.code=y.code
 op:y'.term.op=y.term.op
 val:y'.term.val=y.term.val
 n:y'.term.n=y.term.n
 to:y'.term.to=if a=b then y.term.to.set k f.blocks.length else y.term.to
theorem uW {a:Nat} {y:BlockD} (hy:f.blocks[a]? = some y):∃ y',(eZ f b k t still).blocks[a]? = some y' /\ SplitB f b k t still a y y':=by
 have hal:=(aD.1 hy).1
 rw [iJ,if_pos hal,hy]
 refine ⟨_,rfl, ?_⟩
 by_cases e1:a=t <;> by_cases e2:a=b <;> simp only [e1,e2,if_true,if_false] <;> constructor <;> simp [jE,fR,e1,e2] <;> simp_all
def aGU (b t:Nat) (n:Int) (still:Bool) (a:Nat) (to to' : Int):Prop:=(to' = to/\(a=b -> to=t -> still=true)) \/ (a=b/\to=t/\to' = n)
theorem aEE {l:List Int} {n:Int} (hk:l[k]? = some (t:Int)) (ht:1 <= t) (j:Nat):((l.set k n).getD j 0=l.getD j 0/\(l.getD j 0=(t:Int) -> (t:Int) ∈ l.set k n)) \/ (l.getD j 0=(t:Int)/\(l.set k n).getD j 0=n):=by
 have hkl:=(aD.1 hk).1
 by_cases e:k=j
 ·subst e
  refine .inr ⟨by rw [aH,hk];rfl, ?_⟩
  rw [aH,List.getElem?_set_self hkl];rfl
 have h1:(l.set k n)[j]? = l[j]?:=List.getElem?_set_ne e
 refine .inl ⟨by rw [aH,aH,h1],fun h => ?_⟩
 rw [aH] at h
 cases hj:l[j]? with
 | none=>rw [hj] at h;simp at h;omega
 | some v =>
  rw [hj] at h h1
  simp at h
  rw [h] at h1
  exact aG h1
theorem aGV {a d:Nat} {V:List Nat} {y y' : BlockD} (S:SplitB f b k t still a y y') (hb:f.blocks[b]? = some x) (hy:f.blocks[a]? = some y) (hk:x.term.to[k]? = some (t:Int)) (ht:1 <= t) (hst:still=((toB f b).set k f.blocks.length).contains t) (s:RunS) :
  (∀ o s1,endR y.term s = .over o s1 -> endR y'.term (sh d V s) = .over o (sh d V s1)) /\ ∀ to s1,endR y.term s = .go to s1 -> ∃ to',endR y'.term (sh d V s) = .go to' (sh d V s1)/\aGU b t f.blocks.length still a to to':=by
 have get:∀ j:Nat,aGU b t f.blocks.length still a (y.term.to.getD j 0) (y'.term.to.getD j 0):=fun j=>by
  rw [S.to]
  by_cases e:a=b
  ·subst e
   rw [hb] at hy
   injection hy with hy
   subst hy
   rw [if_pos rfl]
   rcases aEE (n:=(f.blocks.length:Int)) hk ht j with ⟨h1,h2⟩ | ⟨h1,h2⟩
   ·refine .inl ⟨h1,fun _ h => ?_⟩
    have h3:=h2 h
    rw [hst,iR hb,cP]
    have h4:=List.mem_map_of_mem (f:=Int.toNat) h3
    rw [List.map_set] at h4
    simpa using h4
   exact .inr ⟨rfl,h1,h2⟩
  rw [if_neg e]
  exact .inl ⟨rfl,fun h=>absurd h e⟩
 unfold endR
 rw [S.op,S.val,S.n]
 by_cases h3:y.term.op=3
 ·rw [if_pos h3,if_pos h3]
  exact ⟨fun o s1 h=>by injection h with h1 h2;subst h1;subst h2;rfl,fun to s1 h=>by cases h⟩
 ·rw [if_neg h3,if_neg h3]
  by_cases h4:y.term.op=4
  ·rw [if_pos h4,if_pos h4]
   exact ⟨fun o s1 h=>by injection h with h1 h2;subst h1;subst h2;rfl,fun to s1 h=>by cases h⟩
  rw [if_neg h4,if_neg h4]
  by_cases h2:y.term.op=2
  ·rw [if_pos h2,if_pos h2]
   exact ⟨(fun o s1 h=>by cases h),fun to s1 h=>by injection h with h1 h2;subst h1;subst h2;exact ⟨_,rfl,get _⟩⟩
  rw [if_neg h2,if_neg h2]
  exact ⟨(fun o s1 h=>by cases h),fun to s1 h=>by injection h with h1 h2;subst h1;subst h2;exact ⟨_,rfl,get _⟩⟩
theorem aEF {F F' a d:Nat} {src src' : Int} {s:RunS} {y:BlockD} (hF:F+d <= F') (hb:f.blocks[b]? = some x) (hy:f.blocks[a]? = some y) (hk:x.term.to[k]? = some (t:Int)) (ht:1 <= t) (hst:still=((toB f b).set k f.blocks.length).contains t)
  (hp:∀ p ∈ y.phis,src ∈ p.src/\(f.blocks.length:Int) ∉ p.src/\p.src.length=p.vals.length) (hE:aGT b f.blocks.length t still src src' a) (hs:s.steps <= F) (hf:Fine (fY f F src a s)) (V:List Nat) :
  ∃ V',(∀ o s1,fY f F src a s = .over o s1 -> fY (eZ f b k t still) F' src' a (sh d V s) = .over o (sh d V' s1)) /\
   ∀ to s1,fY f F src a s = .go to s1 -> ∃ to',fY (eZ f b k t still) F' src' a (sh d V s) = .go to' (sh d V' s1)/\aGU b t f.blocks.length still a to to':=by
 obtain ⟨y',hy',S⟩:=uW (b:=b) (k:=k) (t:=t) (still:=still) hy
 refine ⟨V.modify a (· + 1), ?_⟩
 unfold fY at hf ⊢
 rw [getD_some hy] at hf ⊢
 rw [getD_some hy',S.code]
 have hv:f6 a (sh d V s)=sh d (V.modify a (· + 1)) (f6 a s):=rfl
 rw [hv,aED hE hp S.phis]
 have hps:(kO y src (f6 a s)).steps <= F:=by
  have h1:=(lX (y.phis.map fun p=>(p,phiV src (f6 a s) p)) (f6 a s)).2.2
  have h2:(f6 a s).steps=s.steps:=rfl
  show (kZ _ _).steps <= F
  omega
 rw [wA (V.modify a (· + 1)) hF hps hf.left]
 have hcap:=pO y.code hps
 cases hcd:gW F y.code (kO y src (f6 a s)) with
 | over o s1=>exact ⟨fun o1 s2 h=>by injection h with h1 h2;subst h1;subst h2;rfl,fun to s2 h=>by cases h⟩
 | go u s1 =>
  rw [hcd] at hf hcap
  have hf1:Fine ((gK F s1).bind fun _ s2=>endR y.term s2):=hf
  have hne:=qR hf1.left
  have hle:s1.steps <= F:=hcap
  have hst1:gK F s1 = .go () { s1 with steps:=s1.steps+1 }:=by unfold gK;rw [if_neg hne]
  show (∀ o s2,(gK F s1).bind _ = .over o s2 -> (gK F' (sh d (V.modify a (· + 1)) s1)).bind _ = .over o (sh d (V.modify a (· + 1)) s2)) /\ ∀ to s2,(gK F s1).bind _ = .go to s2 -> ∃ to',(gK F' (sh d (V.modify a (· + 1)) s1)).bind _ = .go to' (sh d (V.modify a (· + 1)) s2)/\_
  rw [v8 (F:=F) (F':=F') (V.modify a (· + 1)) hne (by omega),hst1]
  exact aGV S hb hy hk ht hst { s1 with steps:=s1.steps+1 }
end
section
variable {f:FuncD} {b k t:Nat} {still:Bool} {x:BlockD}
theorem aEG {F' : Nat} {src:Int} {s:RunS} (h:s.steps ≠ F'):fY (eZ f b k t still) F' src f.blocks.length s = .go (t:Int) { s with steps:=s.steps+1,visits:=s.visits.modify f.blocks.length (· + 1) }:=by
 have hy:(eZ f b k t still).blocks[f.blocks.length]? = some (nH t):=by rw [iJ,if_neg (Nat.lt_irrefl _),if_pos rfl]
 unfold fY
 rw [getD_some hy]
 show (Res.go () (f6 f.blocks.length s)).bind _=_
 show (gK F' (f6 f.blocks.length s)).bind _=_
 have h1:gK F' (f6 f.blocks.length s) = .go () { f6 f.blocks.length s with steps:=s.steps+1 }:=by
  unfold gK
  rw [if_neg (show ¬ (f6 f.blocks.length s).steps=F' from h)];rfl
 rw [h1];rfl
theorem aCO (hc:d7 f=0) (hF:fM f 0 0) {src:Int} {a:Nat} (hin:In f src a) {y:BlockD} (hy:f.blocks[a]? = some y):∀ p ∈ y.phis,src ∈ p.src/\(f.blocks.length:Int) ∉ p.src/\p.src.length=p.vals.length:=fun p hp=>by
 have h1:=(fX.1 ((iM.1 hc).2.2.1 a y hy)).2.1 p hp
 unfold iH at h1
 simp only [aI,aU] at h1
 refine ⟨hin.phis hc hF hy p hp,fun hm => ?_,by simpa using h1.1.1.2⟩
 have h2:=h1.1.2 _ hm
 unfold numB at h2
 simp at h2
theorem aIG (hc:d7 f=0) (hF:fM f 0 0) (hb:f.blocks[b]? = some x) (hk:x.term.to[k]? = some (t:Int)) (ht:1 <= t) (hst:still=((toB f b).set k f.blocks.length).contains t) {F F' : Nat} (hFF:F+F <= F') :
  ∀ (m:Nat) (src src' : Int) (a:Nat) (s s1:RunS) (o:OverD) (d:Nat) (V:List Nat),In f src a -> GoodS f F s -> aGT b f.blocks.length t still src src' a -> d <= s.steps -> runN f F m src a s=some (o,s1) -> o.how ≠ 3 ->
   ∃ m' d' V',runN (eZ f b k t still) F' m' src' a (sh d V s)=some (o,sh d' V' s1)/\d' <= s1.steps:=by
 intro m
 induction m with
 | zero=>intro src src' a s s1 o d V _ _ _ _ h _;simp [runN] at h
 | succ m ih =>
  intro src src' a s s1 o d V hin hg hE hd h ho
  have hal:=hin.lt hc
  obtain ⟨y,hy⟩ : ∃ y,f.blocks[a]? = some y:=⟨_,aC hal⟩
  obtain ⟨-,b2, -⟩:=sG f F src a s
  have hsF:=hg.stp
  unfold runN at h
  have hfine:Fine (fY f F src a s):=fun o2 s2 e=>by
   rw [e] at h
   injection h with h
   injection h with h1 h2
   rw [h1];exact ho
  obtain ⟨V',q1,q2⟩:=aEF (F':=F') (d:=d) (by omega) hb hy hk ht hst (aCO hc hF hin hy) hE hsF hfine V
  cases hbr:fY f F src a s with
  | over o1 s2 =>
   rw [hbr] at h b2
   injection h with e
   injection e with e1 e2
   subst e1
   subst e2
   simp only [Res.st] at b2
   refine ⟨1,d,V', ?_,by omega⟩
   unfold runN
   rw [q1 _ _ hbr]
  | go to s2 =>
   have hgo:=_root_.Go.Proofs.YtgmhnepmkaonaaaGreat.u8 hc hg hy (hin.phis hc hF hy) hbr
   obtain ⟨t2,rfl,ht2⟩:=hgo.to
   obtain ⟨to',q3,q4⟩:=q2 _ _ hbr
   rw [hbr] at h
   have h' : runN f F m a t2 s2=some (o,s1):=by simpa using h
   have hst2:=hgo.steps
   have hin2:In f (a:Int) t2:=.inr ⟨a,rfl,hal,ht2⟩
   rcases q4 with ⟨rfl,hq⟩ | ⟨rfl,htt,rfl⟩
   ·obtain ⟨m',d',V2,r1,r2⟩:=ih (a:Int) (a:Int) t2 s2 s1 o d V' hin2 hgo.good (.inl ⟨rfl,fun e1 e2=>hq (by omega) (by omega)⟩) (by omega) h' ho
    refine ⟨m' + 1,d',V2, ?_,r2⟩
    unfold runN
    rw [q3]
    simpa using r1
   have e2:t2=t:=by omega
   subst e2
   obtain ⟨m',d',V2,r1,r2⟩:=ih (a:Int) (f.blocks.length:Int) t2 s2 s1 o (d+1) (V'.modify f.blocks.length (· + 1)) hin2 hgo.good (.inr ⟨rfl,rfl,rfl⟩) (by omega) h' ho
   refine ⟨m' + 1+1,d',V2, ?_,r2⟩
   have hne:(sh d V' s2).steps ≠ F':=by
    show s2.steps+d ≠ F'
    have:=hgo.good.stp
    omega
   unfold runN
   rw [q3]
   show runN _ F' (m' + 1) a ((f.blocks.length:Int)).toNat (sh d V' s2)=_
   rw [cH]
   unfold runN
   rw [aEG hne]
   show runN _ F' m' (f.blocks.length:Int) ((t2:Int)).toNat _=_
   rw [cH]
   exact r1
theorem zD (hc:d7 f=0) (hF:fM f 0 0) (hb:f.blocks[b]? = some x) (hk:x.term.to[k]? = some (t:Int)) (ht:1 <= t) (hst:still=((toB f b).set k f.blocks.length).contains t) {i:InputD} {u v:TraceD} (hu:RunP f i 1000 u) (hv:RunP (eZ f b k t still) i 2000 v)
  (hgc:d7 (eZ f b k t still)=0) (hgF:fM (eZ f b k t still) 0 0) :
  u.how=3 \/ (v.how=u.how/\v.value=u.value/\v.trap=u.trap/\v.out=u.out/\v.arrays=u.arrays/\v.checks=u.checks/\0 <= u.steps/\u.steps <= v.steps/\v.steps <= 2 * u.steps):=by
 rcases hu with ⟨-,hn⟩ | ⟨-, -, -,o,s,⟨m,hr⟩,rfl⟩
 ·exact absurd ⟨hc,hF,by omega⟩ hn
 rcases hv with ⟨-,hn⟩ | ⟨-, -, -,o2,s2,hr2,rfl⟩
 ·exact absurd ⟨hgc,hgF,by omega⟩ hn
 by_cases h3:o.how=3
 ·exact .inl h3
 ·obtain ⟨m',d',V',r1,r2⟩:=aIG hc hF hb hk ht hst (F:=1000) (F':=2000) (by omega) m (-1) (-1) 0 (lQ f i) s o 0 (List.replicate (eZ f b k t still).blocks.length 0) (.inl ⟨rfl,rfl⟩) (GoodS.start (i:=i) hc) (.inl ⟨rfl,fun _ e=>by omega⟩) (aO _) hr h3
  obtain ⟨rfl,rfl⟩:=hr2.one ⟨m',r1⟩
  refine .inr ⟨rfl,rfl,rfl,rfl,rfl,rfl, ?_, ?_, ?_⟩
  ·show (0:Int) <= (s.steps:Int);omega
  ·show (s.steps:Int) <= ((s.steps+d' : Nat):Int);omega
  show ((s.steps+d' : Nat):Int) <= 2 * (s.steps:Int);omega
end
end
section
section
open Go.RowKit
def kH (t u:TraceD):Bool:=(t.how == u.how) && (t.value == u.value) && (t.trap == u.trap) && decide (t.out=u.out) && decide (t.arrays=u.arrays)
def aER (b:Bool) (w:World) (e:Ending) (w' : World):Prop:=e = .returned (.bool b)/\Below w.heap.size w w'
theorem xQ (w:World) (n:Nat):Below w.heap.size w (w.drewN n):=⟨rfl,rfl,rfl,aB _,fun _ _=>rfl⟩
theorem aDE {w:World} {v v' : Value} {t u:TraceD} (ht:j8 w v t) (hu:j8 w v' u):Calls Tryz.prog 43 #[v,v'] w (aER (kH t u) w):=by
 rcases t with ⟨x0,x1,x2,xo,xa,x5,x6,xv⟩
 rcases u with ⟨y0,y1,y2,yo,ya,y5,y6,yv⟩
 obtain ⟨o1,a1,v1,rfl,ho1,ha1,hv1⟩:=ht
 obtain ⟨o2,a2,v2,rfl,ho2,ha2,hv2⟩:=hu
 simp only at ho1 ha1 hv1 ho2 ha2 hv2 ⊢
 have HO1:=h! ho1
 have HO2:=h! ho2
 have HA1:=h! ha1
 have HA2:=h! ha2
 obtain ⟨b1,c1,rfl⟩:=ho1.form
 obtain ⟨b2,c2,rfl⟩:=ho2.form
 obtain ⟨b3,c3,rfl⟩:=hv1.form
 obtain ⟨b4,c4,rfl⟩:=hv2.form
 obtain ⟨_,b5,c5,_,_,rfl, -, -, -, -, -, -⟩:=ha1.parts
 obtain ⟨_,b6,c6,_,_,rfl, -, -, -, -, -, -⟩:=ha2.parts
 clear ho1 ho2 ha1 ha2 hv1 hv2
 go_enter Tryz.func43,Tryz.ntmps43
 go_upto_region 1 with (fail)
 have hA_:=(Below.refl w.heap.size w).alloc (aB _) (.cells #[.int .i64 x0,.int .i64 x1,.int .i64 x2,.slice b1 xo.length c1,.slice b5 xa.length c5,.int .i64 x5,.int .i64 x6,.slice b3 xv.length c3] 49)
 have HW:=h! hA_
 clear hA_
 have B2:=h! (Box.new w #[.int .i64 x0,.int .i64 x1,.int .i64 x2,.slice b1 xo.length c1,.slice b5 xa.length c5,.int .i64 x5,.int .i64 x6,.slice b3 xv.length c3] 49)
 have hz0_:(w.alloc (.cells #[.int .i64 x0,.int .i64 x1,.int .i64 x2,.slice b1 xo.length c1,.slice b5 xa.length c5,.int .i64 x5,.int .i64 x6,.slice b3 xv.length c3] 49)).heap.size=w.heap.size+1:=World.size_alloc _ _
 generalize w.alloc (.cells #[.int .i64 x0,.int .i64 x1,.int .i64 x2,.slice b1 xo.length c1,.slice b5 xa.length c5,.int .i64 x5,.int .i64 x6,.slice b3 xv.length c3] 49)=wv0 at *
 have hA_:=(Below.refl wv0.heap.size wv0).alloc (aB _) (.cells #[.int .i64 y0,.int .i64 y1,.int .i64 y2,.slice b2 yo.length c2,.slice b6 ya.length c6,.int .i64 y5,.int .i64 y6,.slice b4 yv.length c4] 49)
 replace B2:=h! (B2.out.later hA_)
 replace HW:=h! (HW.out.trans (hA_.mono HW.out.size))
 clear hA_
 have B3:=h! (Box.new wv0 #[.int .i64 y0,.int .i64 y1,.int .i64 y2,.slice b2 yo.length c2,.slice b6 ya.length c6,.int .i64 y5,.int .i64 y6,.slice b4 yv.length c4] 49)
 rw [hz0_] at B3
 clear hz0_
 generalize wv0.alloc (.cells #[.int .i64 y0,.int .i64 y1,.int .i64 y2,.slice b2 yo.length c2,.slice b6 ya.length c6,.int .i64 y5,.int .i64 y6,.slice b4 yv.length c4] 49)=wv at *
 obtain ⟨lB2,cB2,fB2⟩:=B2.out
 obtain ⟨lB3,cB3,fB3⟩:=B3.out
 cases q0:(x0 == y0)
 ·have HRES:Hid (kH ⟨x0,x1,x2,xo,xa,x5,x6,xv⟩ ⟨y0,y1,y2,yo,ya,y5,y6,yv⟩=false):=h! (by simp [kH,q0])
  go_wp2
  go_ret
  exact ⟨by rw [HRES.out];rfl,HW.out⟩
 cases q1:(x1 == y1)
 ·have HRES:Hid (kH ⟨x0,x1,x2,xo,xa,x5,x6,xv⟩ ⟨y0,y1,y2,yo,ya,y5,y6,yv⟩=false):=h! (by simp [kH,q0,q1])
  go_wp2
  go_ret
  exact ⟨by rw [HRES.out];rfl,HW.out⟩
 cases q2:(x2 == y2)
 ·have HRES:Hid (kH ⟨x0,x1,x2,xo,xa,x5,x6,xv⟩ ⟨y0,y1,y2,yo,ya,y5,y6,yv⟩=false):=h! (by simp [kH,q0,q1,q2])
  go_wp2
  go_ret
  exact ⟨by rw [HRES.out];rfl,HW.out⟩
 have HQ:=h! (show (x0 == y0)=true/\(x1 == y1)=true/\(x2 == y2)=true from ⟨q0,q1,q2⟩)
 go_wp2_with fail
 refine (vC (HO1.out.below HW.out) (HO2.out.below HW.out)).mono ?_
 rintro e w2 ⟨rfl,n,rfl⟩
 have hb:=xQ wv n
 generalize wv.drewN n=w2 at *
 clear lB2 cB2 fB2 lB3 cB3 fB3
 replace B2:=h! (B2.out.later hb)
 replace B3:=h! (B3.out.later hb)
 replace HW:=h! (HW.out.trans (hb.mono HW.out.size))
 clear hb
 obtain ⟨lB2,cB2,fB2⟩:=B2.out
 obtain ⟨lB3,cB3,fB3⟩:=B3.out
 cases q3:decide (xo=yo)
 ·have HRES:Hid (kH ⟨x0,x1,x2,xo,xa,x5,x6,xv⟩ ⟨y0,y1,y2,yo,ya,y5,y6,yv⟩=false):=h! (by simp only [kH,q3];simp)
  go_wp2
  go_ret
  exact ⟨by rw [HRES.out];rfl,HW.out⟩
 have HQ3:=h! q3
 go_wp2_with fail
 refine (zJ (HA1.out.below HW.out) (HA2.out.below HW.out)).mono ?_
 rintro e w3 ⟨rfl,hb⟩
 have HRES:Hid (kH ⟨x0,x1,x2,xo,xa,x5,x6,xv⟩ ⟨y0,y1,y2,yo,ya,y5,y6,yv⟩=decide (xa=ya)):=h! (by simp only [kH,q3,q0,q1,q2];simp)
 clear lB2 cB2 fB2 lB3 cB3 fB3
 replace B2:=h! (B2.out.later hb)
 replace B3:=h! (B3.out.later hb)
 replace HW:=h! (HW.out.trans (hb.mono HW.out.size))
 clear hb
 obtain ⟨lB2,cB2,fB2⟩:=B2.out
 obtain ⟨lB3,cB3,fB3⟩:=B3.out
 go_wp2
 go_ret
 exact ⟨by rw [HRES.out];rfl,HW.out⟩
theorem pR:fM jB 0 0:=by
 refine .inr ⟨fun d hd => ?_,.inr ⟨fun d y hy => ?_,.inr ⟨fun v hv => ?_,rfl,rfl⟩⟩⟩
 ·have h1:d < 1:=hd
  obtain rfl:d=0:=by omega
  exact .zero (by decide)
 ·have h1:=(aD.1 hy).1
  have h2:d < 1:=h1
  obtain rfl:d=0:=by omega
  have h3:some (⟨[],[⟨1,0,[],5⟩],⟨3,0,[],0⟩⟩ : BlockD)=some y:=hy
  injection h3 with h3
  rw [<-h3];rfl
 have h9:∀ v ∈ uxF jB,v.id=0/\v.blk=0/\v.pos=1:=by decide
 obtain ⟨h1,h2,h3⟩:=h9 v hv
 exact ⟨0,0,by rw [h1,rH];rfl,.inr ⟨by omega,.inl ⟨h2.symm,by omega⟩⟩⟩
theorem sO:∃ s1,fY jB 9 (-1) 0 (lQ jB ⟨[],[]⟩) = .over ⟨1,5,0⟩ s1/\s1.steps=2:=⟨_,rfl,rfl⟩
theorem pS {t:TraceD} (h:RunP jB ⟨[],[]⟩ 9 t):t.how=1/\t.value=5/\t.steps=2:=by
 rcases h with ⟨-,hn⟩ | ⟨-, -, -,o,s,hr,rfl⟩
 ·exact absurd ⟨t1.1,pR,by omega⟩ hn
 obtain ⟨s1,h1,h2⟩:=sO
 obtain ⟨rfl,rfl⟩:=hr.one (Runs.over h1)
 exact ⟨rfl,rfl,by show ((s.steps:Nat):Int)=2;rw [h2];rfl⟩
theorem aES {w:World}:Calls Tryz.prog 26 #[] w (aER true w):=by
 go_enter Tryz.func26,Tryz.ntmps26
 go_wp2_with fail
 have hA_:=(Below.refl w.heap.size w).alloc (aB _) (.cells #[.int .i64 1,.int .i64 0,.slice none 0 0,.int .i64 5] 87)
 have HW:=h! hA_
 clear hA_
 have B0:=h! (Box.new w #[.int .i64 1,.int .i64 0,.slice none 0 0,.int .i64 5] 87)
 have hz0_:(w.alloc (.cells #[.int .i64 1,.int .i64 0,.slice none 0 0,.int .i64 5] 87)).heap.size=w.heap.size+1:=World.size_alloc _ _
 generalize w.alloc (.cells #[.int .i64 1,.int .i64 0,.slice none 0 0,.int .i64 5] 87)=wv0 at *
 have hA_:=(Below.refl wv0.heap.size wv0).alloc (aB _) (.cells #[.slice none 0 0,.slice (some ⟨w.heap.size,0,none⟩) 1 1,.int .i64 3,.int .i64 0,.slice none 0 0,.int .i64 0] 75)
 replace B0:=h! (B0.out.later hA_)
 replace HW:=h! (HW.out.trans (hA_.mono HW.out.size))
 clear hA_
 have B1:=h! (Box.new wv0 #[.slice none 0 0,.slice (some ⟨w.heap.size,0,none⟩) 1 1,.int .i64 3,.int .i64 0,.slice none 0 0,.int .i64 0] 75)
 rw [hz0_] at B1
 clear hz0_
 generalize wv0.alloc (.cells #[.slice none 0 0,.slice (some ⟨w.heap.size,0,none⟩) 1 1,.int .i64 3,.int .i64 0,.slice none 0 0,.int .i64 0] 75)=wv at *
 obtain ⟨lB0,cB0,fB0⟩:=B0.out
 obtain ⟨lB1,cB1,fB1⟩:=B1.out
 refine (runC (i:=⟨[],[]⟩) (sN B0.out B1.out) ⟨_,_,rfl,Ints.nil,⟨[],rfl,Row.nil,fun j hj=>absurd hj (by show ¬ j < 0;omega)⟩⟩ ⟨by decide,by decide⟩).mono ?_
 rintro e w2 ⟨v,t,rfl,hp,ht,hb⟩
 obtain ⟨p1,p2,p3⟩:=pS hp
 obtain ⟨ov,av,vv,rfl,ho,ha,hv⟩:=ht
 obtain ⟨b1,c1,rfl⟩:=ho.form
 obtain ⟨b3,c3,rfl⟩:=hv.form
 obtain ⟨_,b5,c5,_,_,rfl, -, -, -, -, -, -⟩:=ha.parts
 rw [p1,p2,p3]
 clear ho ha hv hp p1 p2 p3
 clear lB0 cB0 fB0 lB1 cB1 fB1
 replace B0:=h! (B0.out.later hb)
 replace B1:=h! (B1.out.later hb)
 replace HW:=h! (HW.out.trans (hb.mono HW.out.size))
 clear hb
 obtain ⟨lB0,cB0,fB0⟩:=B0.out
 obtain ⟨lB1,cB1,fB1⟩:=B1.out
 clear lB0 cB0 fB0 lB1 cB1 fB1
 go_wp2
 go_ret
 exact ⟨rfl,HW.out.alloc HW.out.size _⟩
end
section
open Go Go.RowKit
namespace Seven
section
variable {P:Program} {ops:Array Oper} {hr:Nat -> Option Nat}
inductive Known where
 | plain
 | const (v:Value)
 | holds (S:Value -> Foot -> World -> Prop)
abbrev Gh:=Nat -> Value × Foot
def Known.fact:Known -> Value × Foot -> World -> Prop
 | .holds S,g,w=>S g.1 g.2 w
 | _,_,_=>True
def Known.foot:Known -> Value × Foot -> Foot
 | .holds _,g=>g.2
 | _,_=>Foot.none
def Known.val:Known -> Value -> Value
 | .const v,_=>v
 | _,u=>u
def Known.spec:Known -> Value -> Foot -> World -> Prop
 | .plain,_,_,_=>False
 | .const v,u,_,_=>u=v
 | .holds S,u, φ,w=>S u φ w
def firm (n0:Nat) (k:Known):Prop:=match k with
 | .holds S => ∀ u φ w1 w2 D,S u φ w1 -> Off D w1 w2 -> φ.off D -> (∀ b,D b -> n0 <= b) -> (∀ b, φ b -> b < w1.heap.size) -> n0 <= w1.heap.size -> S u φ w2
 | _=>True
structure Held (Ss:Nat -> Known) (ν : Gh) (T:Nat -> Prop) (n0:Nat) (w:World):Prop where
 fact:∀ j,T j -> (Ss j).fact (ν j) w
 base:∀ j b,T j -> (Ss j).foot (ν j) b -> n0 <= b
 lt:∀ j b,T j -> (Ss j).foot (ν j) b -> b < w.heap.size
 apart:∀ i j,T i -> T j -> i ≠ j -> ((Ss i).foot (ν i)).off ((Ss j).foot (ν j))
theorem Held.sub {Ss:Nat -> Known} {ν : Gh} {T T' : Nat -> Prop} {n0:Nat} {w:World} (h:Held Ss ν T n0 w) (hT:∀ j,T' j -> T j):Held Ss ν T' n0 w :=
 ⟨fun j hj=>h.fact j (hT j hj),fun j b hj=>h.base j b (hT j hj),fun j b hj=>h.lt j b (hT j hj),fun i j hi hj=>h.apart i j (hT i hi) (hT j hj)⟩
theorem Held.congr {Ss Ss' : Nat -> Known} {ν ν' : Gh} {T:Nat -> Prop} {n0:Nat} {w:World} (h:Held Ss ν T n0 w) (hs:∀ j,T j -> Ss' j=Ss j /\ ν' j = ν j):Held Ss' ν' T n0 w:=by
 refine ⟨fun j hj => ?_,fun j b hj hb => ?_,fun j b hj hb => ?_,fun i j hi hj hne => ?_⟩
 ·obtain ⟨e1,e2⟩:=hs j hj;rw [e1,e2];exact h.fact j hj
 ·obtain ⟨e1,e2⟩:=hs j hj;rw [e1,e2] at hb;exact h.base j b hj hb
 ·obtain ⟨e1,e2⟩:=hs j hj;rw [e1,e2] at hb;exact h.lt j b hj hb
 obtain ⟨e1,e2⟩:=hs j hj;obtain ⟨e3,e4⟩:=hs i hi;rw [e1,e2,e3,e4];exact h.apart i j hi hj hne
theorem Held.step {Ss Ss' : Nat -> Known} {ν ν' : Gh} {T T' : Nat -> Prop} {n0 i:Nat} {w w' : World} {E:Foot} (h:Held Ss ν T n0 w) (hT:∀ j,T' j -> j ≠ i -> T j) (hs:∀ j,T' j -> j ≠ i -> Ss' j=Ss j /\ ν' j = ν j)
  (ho:Off E w w') (hE:∀ b,E b -> n0 <= b) (hoff:∀ j,T' j -> j ≠ i -> ((Ss j).foot (ν j)).off E) (hfirm:∀ j,firm n0 (Ss j)) (hn:n0 <= w.heap.size)
  (hi:(Ss' i).fact (ν' i) w') (hib:∀ b,(Ss' i).foot (ν' i) b -> (E b \/ w.heap.size <= b)/\b < w'.heap.size):Held Ss' ν' T' n0 w':=by
 have cross:∀ j,T' j -> j ≠ i -> ((Ss' i).foot (ν' i)).off ((Ss' j).foot (ν' j)):=fun j hj hne b h1 h2=>by
  obtain ⟨e1,e2⟩:=hs j hj hne
  rw [e1,e2] at h2
  rcases (hib b h1).1 with h3 | h3
  ·exact hoff j hj hne b h2 h3
  have:=h.lt j b (hT j hj hne) h2;omega
 refine ⟨fun j hj => ?_,fun j b hj hb => ?_,fun j b hj hb => ?_,fun a j ha hj hne => ?_⟩
 ·by_cases e:j=i
  ·subst e;exact hi
  obtain ⟨e1,e2⟩:=hs j hj e
  rw [e1,e2]
  have h1:=h.fact j (hT j hj e)
  have h2:=hoff j hj e
  have h3:=hfirm j
  have h4:=h.lt j
  have h5:=hT j hj e
  generalize Ss j=s at h1 h2 h3 h4 ⊢
  cases s with
  | holds S=>exact h3 _ _ _ _ _ h1 ho h2 hE (fun b hb=>h4 b h5 hb) hn
  | _=>trivial
 ·by_cases e:j=i
  ·subst e
   rcases (hib b hb).1 with h3 | h3
   ·exact hE b h3
   omega
  obtain ⟨e1,e2⟩:=hs j hj e
  rw [e1,e2] at hb
  exact h.base j b (hT j hj e) hb
 ·by_cases e:j=i
  ·subst e;exact (hib b hb).2
  obtain ⟨e1,e2⟩:=hs j hj e
  rw [e1,e2] at hb
  exact bH (h.lt j b (hT j hj e) hb) ho.size
 ·by_cases e:a=i
  ·subst e;exact cross j hj (fun e=>hne e.symm)
  by_cases e' : j=i
  ·subst e';exact (cross a ha e).symm
  obtain ⟨e1,e2⟩:=hs j hj e'
  obtain ⟨e3,e4⟩:=hs a ha e
  rw [e1,e2,e3,e4]
  exact h.apart a j (hT a ha e) (hT j hj e') hne
def Eats (hr:Nat -> Option Nat) (Ss:Nat -> Known) (ν : Gh) (k:Nat):Foot:=fun b => ∃ j,hr j=some k/\(Ss j).foot (ν j) b
def Sees (hr:Nat -> Option Nat) (ops:Array Oper) (k j:Nat):Prop:=depB ops ops.size k j=true/\(hr j=none \/ hr j=some k)
def yP (S:Value -> Foot -> World -> Prop) (E:Foot) (w:World) (u:Value) (w' : World):Prop := ∃ φ : Foot,S u φ w' /\ Off E w w' /\ ∀ b, φ b -> (E b \/ w.heap.size <= b)/\b < w'.heap.size
def Oper.gives (P:Program) (o:Oper) (a:Act) (w:World) (S:Value -> Foot -> World -> Prop) (E:Foot):Prop :=
 (∃ u w',((execOp a.eval o).run P w = .ok (.value u) w' \/ ((execOp a.eval o).run P w = .ok .skip w' /\ u=undef))/\yP S E w u w') \/
 ∃ f args,(execOp a.eval o).run P w = .ok (.enter f args) w/\Calls P f args w fun e w' => ∃ u,e = .returned u/\yP S E w u w'
def MadeS (mk:Nat -> Value) (A:Array Value):Value -> Foot -> World -> Prop:=fun u φ w => ∃ b,u=mk b/\(∀ k, φ k ↔ k=b)/\Box w b A
theorem MadeS.off {mk:Nat -> Value} {A:Array Value} {u:Value} {φ D:Foot} {w w' : World} (h:MadeS mk A u φ w) (ho:Off D w w') (hn : φ.off D):MadeS mk A u φ w':=by
 obtain ⟨b,h1,h2,h3⟩:=h
 exact ⟨b,h1,h2,h3.off ho (hn b ((h2 b).2 rfl))⟩
theorem yQ (mk:Nat -> Value) (A:Array Value) (T:TypeId) (w:World) {E:Foot}:yP (Known.holds (MadeS mk A)).spec E w (mk w.heap.size) (w.alloc (.cells A T)) :=
 ⟨Foot.one w.heap.size,⟨_,rfl,fun k=>Iff.rfl,Box.new _ _ _⟩,Off.alloc _ _ _,fun b hb=>by cases hb;exact ⟨.inr (aB _),by simp⟩⟩
def Grow (hr:Nat -> Option Nat) (P:Program) (ops:Array Oper) (w0:World) (Ss:Gh -> Nat -> Known) (ν : Gh) (L:Act -> World -> Prop):List Oper -> Nat -> Act -> Prop
 | [],k,a => ∀ w',Below w0.heap.size w0 w' -> Held (Ss ν) ν (fun j=>j < k/\hr j=none) w0.heap.size w' -> L a w'
 | o :: rest,k,a =>
  if Region.wanted o (yielded ops a.tmps) then
   (Ss ν k = .plain /\ ∃ v,(∀ w',Below w0.heap.size w0 w' -> Held (Ss ν) ν (Sees hr ops k) w0.heap.size w' -> Oper.yields P o a w' v)/\Grow hr P ops w0 Ss ν L rest (k+1) (a.put o.dst v)) \/
   (Ss ν k ≠ .plain/\(∀ w',Below w0.heap.size w0 w' -> Held (Ss ν) ν (Sees hr ops k) w0.heap.size w' -> Oper.gives P o a w' (Ss ν k).spec (Eats hr (Ss ν) ν k))/\Grow hr P ops w0 Ss ν L rest (k+1) (a.put o.dst ((Ss ν k).val (ν k).1)))
  else Ss ν k = .plain/\Grow hr P ops w0 Ss ν L rest (k+1) (a.put o.dst undef)
section
variable {w0:World} {Ss:Gh -> Nat -> Known} {ν : Gh} {L:Act -> World -> Prop} {o:Oper} {rest:List Oper} {k:Nat} {a:Act}
theorem Grow.val {v:Value} (hg:Region.wanted o (yielded ops a.tmps)=true) (hk:Ss ν k = .plain)
  (hy:∀ w',Below w0.heap.size w0 w' -> Held (Ss ν) ν (Sees hr ops k) w0.heap.size w' -> (execOp a.eval o).run P w' = .ok (.value v) w') (h:Grow hr P ops w0 Ss ν L rest (k+1) (a.put o.dst v)):Grow hr P ops w0 Ss ν L (o :: rest) k a:=by
 simp only [Grow,hg,if_true]
 exact .inl ⟨hk,v,fun w' h1 h2=>⟨w',.inl (hy w' h1 h2),Below.refl _ _⟩,h⟩
theorem Grow.skip (hg:Region.wanted o (yielded ops a.tmps)=false) (hk:Ss ν k = .plain) (h:Grow hr P ops w0 Ss ν L rest (k+1) (a.put o.dst undef)):Grow hr P ops w0 Ss ν L (o :: rest) k a:=by
 simp only [Grow,hg,bE,if_false]
 exact ⟨hk,h⟩
theorem Grow.call {f:FuncId} {args:Array Value} (hg:Region.wanted o (yielded ops a.tmps)=true) (hk:Ss ν k ≠ .plain)
  (hrun:∀ w' : World,(execOp a.eval o).run P w' = .ok (.enter f args) w')
  (hy:∀ w',Below w0.heap.size w0 w' -> Held (Ss ν) ν (Sees hr ops k) w0.heap.size w' -> Calls P f args w' fun e w'' => ∃ u φ,e = .returned u/\(Ss ν k).spec u φ w'' /\ Below w'.heap.size w' w'' /\ ∀ b, φ b -> w'.heap.size <= b/\b < w''.heap.size)
  (h:Grow hr P ops w0 Ss ν L rest (k+1) (a.put o.dst ((Ss ν k).val (ν k).1))):Grow hr P ops w0 Ss ν L (o :: rest) k a:=by
 simp only [Grow,hg,if_true]
 exact .inr ⟨hk,fun w' h1 h2=>.inr ⟨f,args,hrun w',(hy w' h1 h2).mono fun e w'' ⟨u, φ,e1,e2,e3,e4⟩=>⟨u,e1, φ,e2,Off.of_below e3 _,fun b hb=>⟨.inr (e4 b hb).1,(e4 b hb).2⟩⟩⟩,h⟩
theorem Grow.gives (hg:Region.wanted o (yielded ops a.tmps)=true) (hk:Ss ν k ≠ .plain)
  (hy:∀ w',Below w0.heap.size w0 w' -> Held (Ss ν) ν (Sees hr ops k) w0.heap.size w' -> ∃ u w'',(execOp a.eval o).run P w' = .ok (.value u) w'' /\ yP (Ss ν k).spec (Eats hr (Ss ν) ν k) w' u w'')
  (h:Grow hr P ops w0 Ss ν L rest (k+1) (a.put o.dst ((Ss ν k).val (ν k).1))):Grow hr P ops w0 Ss ν L (o :: rest) k a:=by
 simp only [Grow,hg,if_true]
 exact .inr ⟨hk,fun w' h1 h2=>.inl (let ⟨u,w'',q1,q2⟩:=hy w' h1 h2; ⟨u,w'',.inl q1,q2⟩),h⟩
theorem Grow.made {mk:Nat -> Value} {A:Array Value} {T:TypeId} (hg:Region.wanted o (yielded ops a.tmps)=true) (hk:Ss ν k = .holds (MadeS mk A))
  (hy:∀ w',Below w0.heap.size w0 w' -> Held (Ss ν) ν (Sees hr ops k) w0.heap.size w' -> (execOp a.eval o).run P w' = .ok (.value (mk w'.heap.size)) (w'.alloc (.cells A T)))
  (h:Grow hr P ops w0 Ss ν L rest (k+1) (a.put o.dst ((Ss ν k).val (ν k).1))):Grow hr P ops w0 Ss ν L (o :: rest) k a :=
 Grow.gives hg (by rw [hk];intro h;cases h) (fun w' h1 h2=>⟨_,_,hy w' h1 h2,by rw [hk];exact yQ _ _ _ _⟩) h
theorem Grow.turns (hg:Region.wanted o (yielded ops a.tmps)=true) (hk:Ss ν k ≠ .plain)
  (hy:∀ w',Below w0.heap.size w0 w' -> Held (Ss ν) ν (Sees hr ops k) w0.heap.size w' -> ∃ w'',(execOp a.eval o).run P w' = .ok .skip w'' /\ yP (Ss ν k).spec (Eats hr (Ss ν) ν k) w' undef w'')
  (h:Grow hr P ops w0 Ss ν L rest (k+1) (a.put o.dst ((Ss ν k).val (ν k).1))):Grow hr P ops w0 Ss ν L (o :: rest) k a:=by
 simp only [Grow,hg,if_true]
 exact .inr ⟨hk,fun w' h1 h2=>.inl (let ⟨w'',q1,q2⟩:=hy w' h1 h2; ⟨undef,w'',.inr ⟨q1,rfl⟩,q2⟩),h⟩
end
def iC (hr:Nat -> Option Nat) (P:Program) (ops:Array Oper) (w0:World) (Ss:Gh -> Nat -> Known) (ν : Gh) (o:Oper) (k:Nat) (a:Act) (v:Value):Prop :=
 (Region.wanted o (yielded ops a.tmps)=true/\Ss ν k = .plain /\ ∀ w',Below w0.heap.size w0 w' -> Held (Ss ν) ν (Sees hr ops k) w0.heap.size w' -> Oper.yields P o a w' v) \/
 (Region.wanted o (yielded ops a.tmps)=true/\Ss ν k ≠ .plain/\v=(Ss ν k).val (ν k).1 /\ ∀ w',Below w0.heap.size w0 w' -> Held (Ss ν) ν (Sees hr ops k) w0.heap.size w' -> Oper.gives P o a w' (Ss ν k).spec (Eats hr (Ss ν) ν k)) \/
 (Region.wanted o (yielded ops a.tmps)=false/\Ss ν k = .plain/\v=undef)
structure Told (hr:Nat -> Option Nat) (P:Program) (ops:Array Oper) (n:Nat) (w0:World) (Ss:Gh -> Nat -> Known) (L:Act -> World -> Prop) (a0:Act) (ν : Gh) (vals:Nat -> Value):Prop where
 step:∀ k o,ops[k]? = some o -> k < n -> ∃ b,Fr ops n a0 vals (· < k) b/\iC hr P ops w0 Ss ν o k b (vals k)
 done:∃ b,Fr ops n a0 vals (· < n) b /\ ∀ w',Below w0.heap.size w0 w' -> Held (Ss ν) ν (fun j=>j < n/\hr j=none) w0.heap.size w' -> L b w'
theorem gF {n:Nat} {w0:World} {Ss:Gh -> Nat -> Known} {L:Act -> World -> Prop} {a0:Act} {ν : Gh} (ht:jW ops n=true) :
  ∀ (l:List Oper) (k:Nat) (a:Act) (v0:Nat -> Value),(∀ j,j < l.length -> ops[k+j]? = l[j]?) -> k+l.length=n -> Fr ops n a0 v0 (· < k) a -> Grow hr P ops w0 Ss ν L l k a ->
   ∃ vals:Nat -> Value,(∀ j,j < k -> vals j=v0 j)/\(∀ j o,ops[j]? = some o -> k <= j -> j < n -> ∃ b,Fr ops n a0 vals (· < j) b/\iC hr P ops w0 Ss ν o j b (vals j)) /\
    ∃ b,Fr ops n a0 vals (· < n) b /\ ∀ w',Below w0.heap.size w0 w' -> Held (Ss ν) ν (fun j=>j < n/\hr j=none) w0.heap.size w' -> L b w'
 | [],k,a,v0,_,hk,hf,h=>by
  have hk' : k=n:=by simpa using hk
  subst hk'
  exact ⟨v0,fun _ _=>rfl,fun j o _ h1 h2=>by omega,a,hf,h⟩
 | o :: rest,k,a,v0,hl,hk,hf,h=>by
  simp only [bB] at hk
  have ho:ops[k]? = some o:=by simpa using hl 0 (by simp)
  have hl' : ∀ j,j < rest.length -> ops[k+1+j]? = rest[j]?:=fun j hj=>by
   have:=hl (j+1) (by simp;omega)
   simpa [Nat.add_assoc,Nat.add_comm 1 j] using this
  have key:∃ v,iC hr P ops w0 Ss ν o k a v/\Grow hr P ops w0 Ss ν L rest (k+1) (a.put o.dst v):=by
   simp only [Grow] at h
   by_cases hw:Region.wanted o (yielded ops a.tmps)=true
   ·simp only [hw,if_true] at h
    rcases h with ⟨h1,v,h2,h3⟩ | ⟨h1,h2,h3⟩
    ·exact ⟨v,.inl ⟨hw,h1,h2⟩,h3⟩
    exact ⟨_,.inr (.inl ⟨hw,h1,rfl,h2⟩),h3⟩
   simp only [dJ] at hw
   simp only [hw,bE,if_false] at h
   exact ⟨undef,.inr (.inr ⟨hw,h.1,rfl⟩),h.2⟩
  obtain ⟨v,hs,hg⟩:=key
  let v1:Nat -> Value:=fun j=>if j=k then v else v0 j
  have e1:∀ j,j < k -> v1 j=v0 j:=fun j hj=>by simp only [v1];rw [if_neg (by omega)]
  have ek:v1 k=v:=by simp [v1]
  have hf1:Fr ops n a0 v1 (· < k) a:=hf.congr (fun j _ hj=>(e1 j hj).symm) (fun _ _=>Iff.rfl)
  have hf2:=hf1.put ht ho (by omega)
  rw [ek] at hf2
  have hf3:Fr ops n a0 v1 (· < k+1) (a.put o.dst v):=hf2.congr (fun _ _ _=>rfl) (fun j _=>by omega)
  obtain ⟨vals,hv,hst,hd⟩:=gF ht rest (k+1) _ v1 hl' (by omega) hf3 hg
  refine ⟨vals,fun j hj=>(hv j (by omega)).trans (e1 j hj),fun j oj hj hkj hjn => ?_,hd⟩
  by_cases hjk:j=k
  ·subst hjk
   rw [ho] at hj
   cases hj
   refine ⟨a,hf1.congr (fun i _ hi=>(hv i (by omega)).symm) (fun _ _=>Iff.rfl), ?_⟩
   rw [hv j (by omega),ek]
   exact hs
  exact hst j oj hj (by omega) hjn
theorem kR {n:Nat} {w0:World} {Ss:Gh -> Nat -> Known} {L:Act -> World -> Prop} {a0:Act} {ν : Gh} {l:List Oper} (ht:jW ops n=true) (hl:∀ j,j < l.length -> ops[j]? = l[j]?) (hn:l.length=n)
  (h:Grow hr P ops w0 Ss ν L l 0 a0):∃ vals,Told hr P ops n w0 Ss L a0 ν vals:=by
 obtain ⟨vals,_,h1,h2⟩:=gF ht l 0 a0 (fun _=>undef) (fun j hj=>by rw [bG];exact hl j hj) (by omega) (Fr.start fun j _ hj=>by omega) h
 exact ⟨vals,fun k o hk hkn=>h1 k o hk (by omega) hkn,h2⟩
theorem i6 {n:Nat} {w0:World} {Ss:Gh -> Nat -> Known} {L L' : Act -> World -> Prop} {a0:Act} {ν ν' : Gh} {vals vals' : Nat -> Value} {listed:Array Bool} (ht:jW ops n=true) (hsel:Region.noSelect ops=true) (hn:n <= ops.size) (hS:∀ ν ν' k,(∀ q,depB ops ops.size k q=true -> ν q = ν' q) -> Ss ν k=Ss ν' k)
  (hc:∀ j oj,ops[j]? = some oj -> listed.getD j false=true -> ∀ e ∈ oj.after,Region.binds .any e=true -> listed.getD e.on false=true)
  (h:Told hr P ops n w0 Ss L a0 ν vals) (h' : Told hr P ops n w0 Ss L' a0 ν' vals') (hw:∀ j,listed.getD j false=true -> ∃ wj,Below w0.heap.size w0 wj/\Held (Ss ν) ν (Sees hr ops j) w0.heap.size wj)
  (hν : ∀ j,listed.getD j false=true -> ν j = ν' j):∀ (j:Nat),j < n -> listed.getD j false=true -> vals j=vals' j:=by
 intro j
 induction j using Nat.strongRecOn with
 | _ j ih =>
  intro hjn hlj
  cases ho:ops[j]? with
  | none =>
   have:=(bQ.1 ho)
   omega
  | some o =>
   obtain ⟨b,hb1,hs⟩:=h.step j o ho hjn
   obtain ⟨b',hb2,hs'⟩:=h'.step j o ho hjn
   have hin:∀ i,i < n -> gX ops j i=true -> i < j -> i < j/\i < j/\vals i=vals' i:=fun i hi he hij=>by
    obtain ⟨oj,hoj,e,hem,hbi,hon⟩:=fK he
    refine ⟨hij,hij,ih i hij hi ?_⟩
    rw [<-hon]
    exact hc j oj hoj hlj e hem hbi
   obtain ⟨ex,ew⟩:=gO (ops:=ops) (o:=o) (fun cs b=>Region.noSelect_spec hsel j o cs b ho) (fun d hd=>Fr.same ht hb1 hb2 ho hjn hin d hd)
   have hdep:∀ i,depB ops ops.size j i=true -> listed.getD i false=true:=fun i hi =>
    fP rfl hc ops.size j i (fun o' ho'=>hc j o' ho' hlj) hi
   have hag:∀ i,listed.getD i false=true -> Ss ν' i=Ss ν i:=fun i hl=>hS ν' ν i fun q hq=>(hν q (fP rfl hc ops.size i q (fun o' ho'=>hc i o' ho' hl) hq)).symm
   have hSj:=hag j hlj
   unfold iC at hs'
   rw [hSj] at hs'
   obtain ⟨w',hb,F1⟩:=hw j hlj
   have F2:Held (Ss ν') ν' (Sees hr ops j) w0.heap.size w':=F1.congr fun i hi=>⟨hag i (hdep i hi.1),(hν i (hdep i hi.1)).symm⟩
   rcases hs with ⟨w1,p1,y1⟩ | ⟨w1,p1,e1,y1⟩ | ⟨w1,p1,e1⟩ <;> rcases hs' with ⟨w2,p2,y2⟩ | ⟨w2,p2,e2,y2⟩ | ⟨w2,p2,e2⟩
   ·obtain ⟨x,r1,_⟩:=y1 w' hb F1
    obtain ⟨y,r2,_⟩:=y2 w' hb F2
    rw [<-ex] at r2
    rcases r1 with r1 | ⟨r1,q1⟩ <;> rcases r2 with r2 | ⟨r2,q2⟩ <;> rw [r1] at r2 <;> simp_all
   ·exact absurd p1 p2
   ·rw [ew,w2] at w1;cases w1
   ·exact absurd p2 p1
   ·rw [e1,e2,hν j hlj]
   ·rw [ew,w2] at w1;cases w1
   ·rw [ew,w2] at w1;cases w1
   ·rw [ew,w2] at w1;cases w1
   rw [e1,e2]
set_option maxHeartbeats 1000000 in
theorem jS {n:Nat} {w0:World} {Ss:Gh -> Nat -> Known} {Q:Exit -> Act -> World -> Prop} {tail:List Oper} {a0:Act} (hB:iP ops n=true) (hfirm:∀ ν j,firm w0.heap.size (Ss ν j)) (hS:∀ ν ν' k,(∀ q,depB ops ops.size k q=true -> ν q = ν' q) -> Ss ν k=Ss ν' k) (hH:∀ j k,hr j=some k -> depB ops ops.size k j=true/\k < n)
  (htail:∀ j,tail[j]? = ops[n+j]?) (hall:∀ ν, ∃ vals,Told hr P ops n w0 Ss (wpList P ops Q tail) a0 ν vals) :
  ∀ (m:Nat) (listed:Array Bool) (a:Act) (w:World) (ν : Gh) (vals:Nat -> Value),HeadInv .any ops n listed -> cnt listed n=m -> Told hr P ops n w0 Ss (wpList P ops Q tail) a0 ν vals ->
   Below w0.heap.size w0 w -> (∀ j,listed.getD j false=true -> ∃ wj,Below w0.heap.size w0 wj/\Held (Ss ν) ν (Sees hr ops j) w0.heap.size wj) -> Held (Ss ν) ν (fun j=>listed.getD j false=true /\ ∀ h,hr j=some h -> listed.getD h false=false) w0.heap.size w -> Fr ops n a0 vals (fun j=>listed.getD j false=true) a -> wpAny P .any ops Q (m+(ops.size - n)) listed a w:=by
 simp only [iP,aI,bU,decide_eq_true_eq,beq_iff_eq] at hB
 obtain ⟨⟨⟨⟨⟨hsel,hn⟩,hed⟩,ht⟩,hsc⟩,hseq⟩:=hB
 intro m
 induction m with
 | zero =>
  intro listed a w ν vals inv hcnt htold hb hwit hf hfr
  have hlen:tail.length=ops.size - n:=by
   apply dR
   ·by_cases hle:tail.length <= ops.size - n
    ·exact hle
    have h1:=htail (ops.size - n)
    rw [aT (by omega)] at h1
    have:=cW.1 h1
    omega
   by_cases hle:ops.size - n <= tail.length
   ·exact hle
   have h1:=htail tail.length
   rw [aX (aB _)] at h1
   have:=bQ.1 h1.symm
   omega
  have hl:∀ j,j < n -> listed.getD j false=true:=fun j hj=>fG (i7 n hcnt j hj) (by rw [inv.size];omega)
  have hlist:listed=fJ ops.size n:=by
   apply cZ
   intro j
   by_cases hj:j < ops.size
   ·have e2:(fJ ops.size n)[j]? = some (decide (j < n)):=by simp [fJ,hj]
    rw [e2]
    by_cases hjn:j < n
    ·have:=hl j hjn
     rw [bC] at this
     cases hx:listed[j]? with
     | none=>rw [hx] at this;cases this
     | some b=>rw [hx] at this;simp at this;rw [this,decide_eq_true hjn]
    have:=inv.tail j (by omega) hj
    rw [bC] at this
    cases hx:listed[j]? with
    | none=>rw [hx] at this;cases this
    | some b=>rw [hx] at this;simp at this;rw [this,decide_eq_false hjn]
   rw [aT (by rw [inv.size];omega),aT (by simp [fJ];omega)]
  obtain ⟨b,hb1,hb2⟩:=htold.done
  have hab:a=b:=hfr.eq hb1 fun j hj=>⟨fun _=>hj,fun _=>hl j hj⟩
  subst hab
  have:=wpAny_of_seq (md:=.any) (Q':=Q) tail n listed a w htail (by rw [hlist,hlen];exact hseq) (hb2 w hb (hf.sub fun j hj=>⟨hl j hj.1,fun h hh=>by rw [hj.2] at hh;cases hh⟩))
  rw [hlen] at this
  rw [bG]
  exact this
 | succ m ih =>
  intro listed a w ν vals inv hcnt htold hb hwit hf hfr
  rw [show m+1+(ops.size - n)=(m+(ops.size - n))+1 by omega]
  obtain ⟨k0,hk0,hu0,hless⟩:=i8 (listed:=listed) n (by omega)
  have hready0:k0 ∈ Region.ready .any ops listed:=by
   refine mem_ready.2 ⟨hu0,ops[k0],aW (by omega),fun e he hbi => ?_⟩
   have:=gT hed hk0 (aW (by omega)) he hbi
   exact fG (hless _ this) (by rw [inv.size];omega)
  refine ⟨fun h0=>(by rw [h0] at hready0;cases hready0),fun i hi => ?_⟩
  have hin:i < n:=by
   rcases cS i n with h | h
   ·exact h
   rcases hsc with h1 | h1
   ·obtain ⟨_,o,ho,_⟩:=mem_ready.1 hi
    have:=(aL.1 ho).1
    omega
   by_cases hns:n < ops.size
   ·exact absurd hi (tail_waits h1.1 h1.2 hns inv _ k0 rfl hk0 hu0 i h)
   obtain ⟨_,o,ho,_⟩:=mem_ready.1 hi
   have:=(aL.1 ho).1
   omega
  obtain ⟨hun,o,ho,hedge⟩:=mem_ready.1 hi
  have hinv':=inv.set hi hin
  have hcnt' : cnt (listed.setIfInBounds i true) n=m:=by
   have:=(kS (by rw [inv.size];omega) hun n).2 hin
   omega
  have hset:∀ j,(listed.setIfInBounds i true).getD j false=true ↔ (j=i \/ listed.getD j false=true):=fun j=>by
   by_cases e:i=j
   ·subst e
    have:i < listed.size:=by rw [inv.size];omega
    simp [this]
   rw [getD_set_ne false e]
   exact ⟨fun h=>.inr h,fun h=>h.resolve_left (fun e'=>e e'.symm)⟩
  obtain ⟨b,hfb,hstep⟩:=htold.step i o ho hin
  have hlook:∀ d,d ∈ o.looksAt ops -> a.tmps[d]? = b.tmps[d]?:=fun d hd=>Fr.same ht hfr hfb ho hin (fun j hj he hji=>by
   obtain ⟨oj,hoj,e,hem,hbi,hon⟩:=fK he
   rw [ho] at hoj
   cases hoj
   exact ⟨by rw [<-hon];exact hedge e hem hbi,hji,rfl⟩) d hd
  obtain ⟨ex,ew⟩:=gO (ops:=ops) (o:=o) (fun cs b=>Region.noSelect_spec hsel i o cs b ho) hlook
  have hdep:∀ j,depB ops ops.size i j=true -> listed.getD j false=true:=fun j hj =>
   fP rfl inv.closed ops.size i j (fun o' ho'=>by rw [ho] at ho';cases ho';exact hedge) hj
  have hunf:listed.getD i false=false:=getD_both hun
  have hlive:∀ j,Sees hr ops i j -> listed.getD j false=true /\ ∀ h,hr j=some h -> listed.getD h false=false:=fun j hj=>⟨hdep j hj.1,fun h hh=>by
   rcases hj.2 with e | e <;> rw [e] at hh <;> cases hh
   exact hunf⟩
  have hfacts:Held (Ss ν) ν (Sees hr ops i) w0.heap.size w:=hf.sub hlive
  have hsz:w0.heap.size <= w.heap.size:=hb.size
  have heat:∀ j,hr j=some i -> listed.getD j false=true /\ ∀ h,hr j=some h -> listed.getD h false=false:=fun j hj=>hlive j ⟨(hH j i hj).1,.inr hj⟩
  have hEb:∀ b,Eats hr (Ss ν) ν i b -> w0.heap.size <= b:=fun b ⟨j,hj,hb⟩=>hf.base j b (heat j hj) hb
  have hlive' : ∀ j,((listed.setIfInBounds i true).getD j false=true /\ ∀ h,hr j=some h -> (listed.setIfInBounds i true).getD h false=false) -> j ≠ i -> listed.getD j false=true /\ ∀ h,hr j=some h -> listed.getD h false=false:=fun j ⟨h1,h2⟩ hne =>
   ⟨((hset j).1 h1).resolve_left hne,fun h hh=>by
    have h3:=h2 h hh
    cases hx:listed.getD h false with
    | false=>rfl
    | true=>rw [(hset h).2 (.inr hx)] at h3;cases h3⟩
  have hEoff:∀ j,((listed.setIfInBounds i true).getD j false=true /\ ∀ h,hr j=some h -> (listed.setIfInBounds i true).getD h false=false) -> j ≠ i -> ((Ss ν j).foot (ν j)).off (Eats hr (Ss ν) ν i):=fun j hj hne b h1 ⟨j2,h2,h3⟩=>by
   have hne2:j ≠ j2:=fun e=>by
    subst e
    have:=hj.2 i h2
    rw [(hset i).2 (.inl rfl)] at this
    cases this
   exact hf.apart j j2 (hlive' j hj hne) (heat j2 h2) hne2 b h1 h3
  -- the frame and the facts behind a step that leaves ν as it was
  have next:∀ (w' : World),Below w.heap.size w w' -> Ss ν i = .plain -> wpAny P .any ops Q (m+(ops.size - n)) (listed.setIfInBounds i true) (a.put o.dst (vals i)) w':=fun w' hg hp=>by
   refine ih _ _ _ ν vals hinv' hcnt' htold (Below.more hb hsz hg) (fun j hl=>by
    rcases (hset j).1 hl with rfl | hl
    ·exact ⟨w,hb,hfacts⟩
    exact hwit j hl) ?_ ((hfr.put ht ho hin).congr (fun _ _ _=>rfl) (fun j _=>(hset j).symm))
   exact hf.step (i:=i) (E:=Foot.none) hlive' (fun _ _ _=>⟨rfl,rfl⟩) (Off.of_below hg _) (fun b h=>h.elim) (fun j _ _ b _ h=>h.elim) (hfirm ν) hsz (by rw [hp];trivial) (by rw [hp];intro b h;exact h.elim)
  -- the same where the step gives the operation's own ghost
  have fresh:∀ (u:Value) (w' : World),Ss ν i ≠ .plain -> yP (Ss ν i).spec (Eats hr (Ss ν) ν i) w u w' ->
    wpAny P .any ops Q (m+(ops.size - n)) (listed.setIfInBounds i true) (a.put o.dst u) w':=fun u w' hnp ⟨φ,hs,hg,hφ⟩=>by
   let ν' : Gh:=fun j=>if j=i then (u, φ) else ν j
   have hνi : ν' i=(u, φ):=by simp [ν']
   have hνj:∀ j,listed.getD j false=true -> ν j = ν' j:=fun j hj=>by
    have hne:j ≠ i:=fun e=>by rw [e,hunf] at hj;cases hj
    simp [ν',hne]
   obtain ⟨vals',htold'⟩:=hall ν'
   have hag:∀ j,listed.getD j false=true -> Ss ν' j=Ss ν j:=fun j hl=>hS ν' ν j fun q hq=>(hνj q (fP rfl inv.closed ops.size j q (fun o' ho'=>inv.closed j o' ho' hl) hq)).symm
   have hSi:Ss ν' i=Ss ν i:=hS ν' ν i fun q hq=>(hνj q (hdep q hq)).symm
   have hsame:=i6 ht hsel hn hS inv.closed htold htold' hwit hνj
   have hval:(Ss ν i).val u=u:=by
    generalize Ss ν i=s at hs hnp
    cases s with
    | plain=>exact absurd rfl hnp
    | const c=>exact hs.symm
    | holds S=>rfl
   have hvi:vals' i=u:=by
    obtain ⟨b',hfb',hstep'⟩:=htold'.step i o ho hin
    unfold iC at hstep'
    rw [hSi] at hstep'
    rcases hstep' with ⟨_,hp',_⟩ | ⟨_,_,hv',_⟩ | ⟨_,hp',_⟩
    ·exact absurd hp' hnp
    ·rw [hv',hνi,hval]
    exact absurd hp' hnp
   have hfr' : Fr ops n a0 vals' (fun j=>listed.getD j false=true) a:=hfr.congr (fun j hj hl=>hsame j hj hl) (fun _ _=>Iff.rfl)
   have hEb2:∀ b,b < w0.heap.size -> ¬ Eats hr (Ss ν) ν i b:=fun b hb hE=>by have:=hEb b hE;omega
   have hbel:Below w0.heap.size w w':=hg.below hsz (fun k _ hk=>hEb k hk)
   rw [<-hvi]
   refine ih _ _ _ ν' vals' hinv' hcnt' htold' (hb.trans hbel) (fun j hl=>by
    by_cases e:j=i
    ·subst e
     exact ⟨w,hb,hfacts.congr fun q hq=>⟨hag q (hdep q hq.1),(hνj q (hdep q hq.1)).symm⟩⟩
    have hl':=((hset j).1 hl).resolve_left e
    obtain ⟨wj,h1,h2⟩:=hwit j hl'
    have hd2:∀ q,depB ops ops.size j q=true -> listed.getD q false=true:=fun q hq=>fP rfl inv.closed ops.size j q (fun o' ho'=>inv.closed j o' ho' hl') hq
    exact ⟨wj,h1,h2.congr fun q hq=>⟨hag q (hd2 q hq.1),(hνj q (hd2 q hq.1)).symm⟩⟩) ?_ ((hfr'.put ht ho hin).congr (fun _ _ _=>rfl) (fun j _=>(hset j).symm))
   refine hf.step (i:=i) hlive' (fun j hj hne=>⟨hag j (hlive' j hj hne).1,(hνj j (hlive' j hj hne).1).symm⟩) hg hEb hEoff (hfirm ν) hsz ?_ ?_
   ·rw [hSi,hνi]
    generalize Ss ν i=s at hs ⊢
    cases s with
    | holds S=>exact hs
    | _=>trivial
   ·rw [hSi,hνi]
    intro b hb
    refine hφ b ?_
    generalize Ss ν i=s at hb ⊢
    cases s with
    | holds S=>exact hb
    | _=>exact hb.elim
  unfold wpOp
  simp only [ho]
  rw [ew]
  rcases hstep with ⟨hw,hp,hy⟩ | ⟨hw,hnp,hv,hc⟩ | ⟨hw,hp,hv⟩
  ·rw [if_pos hw]
   left
   obtain ⟨w',hr',hg⟩:=hy w hb hfacts
   unfold Oper.wp
   rw [ex]
   rcases hr' with hr' | ⟨hr',hv⟩
   ·rw [hr'];exact next w' hg hp
   rw [hr',Oper.upon_skip, <-hv];exact next w' hg hp
  ·rw [if_pos hw]
   left
   rcases hc w hb hfacts with ⟨u,w',hr',hs⟩ | ⟨f,args,hr',hcall⟩
   ·unfold Oper.wp
    rcases hr' with hr' | ⟨hr',hu⟩
    ·rw [ex,hr',Oper.upon_value]
     exact fresh u w' hnp hs
    rw [ex,hr',Oper.upon_skip, <-hu]
    exact fresh u w' hnp hs
   unfold Oper.wp
   rw [ex,hr',Oper.upon_enter]
   refine hcall.mono fun e w' ⟨u,he,hs⟩ => ?_
   subst he
   exact fresh u w' hnp hs
  rw [hw]
  simp only [bE,if_false]
  rw [<-hv]
  exact next w (Below.refl _ _) hp
theorem wp_region_grow {id:Nat} {Q:Exit -> Act -> World -> Prop} {a:Act} {w:World} {l:List Oper} (n:Nat) (hr:Nat -> Option Nat) (Ss:Gh -> Nat -> Known) (hm:P.follows .mixedOrders=true) (hB:iP l.toArray n=true) (hfirm:∀ ν j,firm w.heap.size (Ss ν j)) (hS:∀ ν ν' k,(∀ q,depB l.toArray l.toArray.size k q=true -> ν q = ν' q) -> Ss ν k=Ss ν' k) (hH:∀ j k,hr j=some k -> depB l.toArray l.toArray.size k j=true/\k < n)
  (h:∀ ν,Grow hr P l.toArray w Ss ν (wpList P l.toArray Q (l.drop n)) (l.take n) 0 a):(Code.region id l.toArray true).wp P Q a w:=by
 have hB':=hB
 simp only [iP,aI,bU,decide_eq_true_eq,beq_iff_eq] at hB
 obtain ⟨⟨⟨⟨⟨hsel,hn⟩,hed⟩,ht⟩,hsc⟩,hseq⟩:=hB
 have hn' : n <= l.length:=by simpa using hn
 have hall:∀ ν, ∃ vals,Told hr P l.toArray n w Ss (wpList P l.toArray Q (l.drop n)) a ν vals:=fun ν =>
  kR ht (fun j hj=>by
   have hj' : j < n:=by simp at hj;omega
   simp [hj']) (by simp;omega) (h ν)
 obtain ⟨vals,htold⟩:=hall fun _=>(undef,Foot.none)
 refine wp_region_any hm ?_
 have inv0:HeadInv .any l.toArray n (Array.replicate l.toArray.size false) :=
  ⟨by simp,fun j oj _ hl=>(by rw [getD_replicate_false] at hl;cases hl),fun t _ ht=>getD_in (by simpa using ht) (getD_replicate_false _ _)⟩
 have hc:∀ m,m <= l.toArray.size -> cnt (Array.replicate l.toArray.size false) m=m:=by
  intro m
  induction m with
  | zero=>intro _;rfl
  | succ m ih =>
   intro hm
   have:(Array.replicate l.toArray.size false).getD m true=false:=getD_in (by simp at hm ⊢;omega) (getD_replicate_false _ _)
   simp only [cnt]
   rw [ih (by omega),this]
   simp
 have:=jS (P:=P) (Q:=Q) (tail:=l.drop n) hB' hfirm hS hH (fun j=>by simp [bM]) hall n (Array.replicate l.toArray.size false) a w.drew _ vals inv0 (hc n hn) htold
  (Below.refl w.heap.size w).drew (fun j hl=>by rw [getD_replicate_false] at hl;cases hl)
  ⟨fun j hj=>absurd hj.1 (by rw [getD_replicate_false];exact dN),fun j b hj=>absurd hj.1 (by rw [getD_replicate_false];exact dN),fun j b hj=>absurd hj.1 (by rw [getD_replicate_false];exact dN),fun i j hj=>absurd hj.1 (by rw [getD_replicate_false];exact dN)⟩ (Fr.start fun j _ hl=>by rw [getD_replicate_false] at hl;cases hl)
 rw [show n+(l.toArray.size - n)=l.toArray.size by omega] at this
 exact this
end
end Seven
open Go.RowKit
def RanO (f:FuncD) (i:InputD) (lo:Int) (u:Value) (φ : Foot) (W:World):Prop := ∃ t,RunP f i lo t/\kJ W φ u t
theorem RanO.off {f:FuncD} {i:InputD} {lo:Int} {u:Value} {φ D:Foot} {W W' : World} (h:RanO f i lo u φ W) (ho:Off D W W') (hn : φ.off D):RanO f i lo u φ W':=by
 obtain ⟨t,h1,h2⟩:=h
 exact ⟨t,h1,h2.off ho hn⟩
theorem j8.later {W W' : World} {v:Value} {t:TraceD} (h:j8 W v t) (hb:Below W.heap.size W W'):j8 W' v t:=h.below hb
theorem j8.out {W:World} {a1 a2 a3:Option Addr} {n1 n2 n3 c1 c2 c3:Nat} {t:TraceD} {x1 x2 x3 x4 x5:Value} (h:j8 W (.agg #[x1,x2,x3,.slice a1 n1 c1,.slice a2 n2 c2,x4,x5,.slice a3 n3 c3]) t):Ints W (.slice a1 n1 c1) t.out:=by
 obtain ⟨a,b,c,e,h1,h2,h3⟩:=h
 injection e with e
 simp at e
 rw [e.2.2.2.1];exact h1
theorem kJ.forms {W:World} {S:Foot} {v:Value} {t:TraceD} (h:kJ W S v t):∃ a1 a2 a3 c1 c2 c3,v = .agg #[.int .i64 t.how,.int .i64 t.value,.int .i64 t.trap,.slice a1 t.out.length c1,.slice a2 t.arrays.length c2,.int .i64 t.steps,.int .i64 t.checks,.slice a3 t.visits.length c3]:=by
 obtain ⟨ov,av,vv,rfl,ho,ha,hv⟩:=h.val
 obtain ⟨b1,c1,rfl⟩:=ho.form
 obtain ⟨b3,c3,rfl⟩:=hv.form
 obtain ⟨_,b5,c5,_,_,rfl, -, -, -, -, -, -⟩:=ha.parts
 exact ⟨_,_,_,_,_,_,rfl⟩
end
section
open Go.RowKit
theorem zEnd {w w1:World} (H:Below w.heap.size w w1) (B:Box w1 (w.heap.size+1) #[.slice none 0 0,.int .i64 0,.int .i64 0,.slice none 0 0]):∃ wz,wz=((((w1.setCell ⟨w.heap.size+1,0,none⟩ (.slice none 0 0)).setCell ⟨w.heap.size+1,1,none⟩ (.int .i64 0)).setCell ⟨w.heap.size+1,2,none⟩ (.int .i64 0)).setCell ⟨w.heap.size+1,3,none⟩ (.slice none 0 0))/\Box wz (w.heap.size+1) #[.slice none 0 0,.int .i64 0,.int .i64 0,.slice none 0 0]/\Below w.heap.size w wz:=
 ⟨_,rfl,Box.to (A':=#[.slice none 0 0,.int .i64 0,.int .i64 0,.slice none 0 0]) ((((B.set 0 (.slice none 0 0)).set 1 (.int .i64 0)).set 2 (.int .i64 0)).set 3 (.slice none 0 0)) (by first | rfl | simp),((((Only.set w1 (w.heap.size+1) 0 (.slice none 0 0)).put 1 (.int .i64 0)).put 2 (.int .i64 0)).put 3 (.slice none 0 0)).2.2 H (by omega)⟩
set_option maxHeartbeats 25600000 in
set_option maxRecDepth 100000 in
theorem wN {w:World} {v:Value} {f:FuncD} {b k:Int} (hv:gG w v f) (hb64:In64 b) (hk64:In64 k):Calls Tryz.prog 42 #[v,.int .i64 b,.int .i64 k] w (aG6 f b k w):=by
 have HV:=h! hv
 obtain ⟨ap,cp,ab,cb,rfl,hp,ha,hc,hB⟩:=hv.form
 obtain ⟨a2,c2,bb,bo,hbe,hbc,hbm,hbl,hba,hbx⟩:=fA hB
 cases hbe
 obtain ⟨np,hnp⟩ : ∃ np,np=f.params.length:=⟨_,rfl⟩
 obtain ⟨ar,har⟩ : ∃ ar,ar=f.arrays:=⟨_,rfl⟩
 obtain ⟨ce,hce⟩ : ∃ ce,ce=f.cells:=⟨_,rfl⟩
 obtain ⟨nb,hnb⟩ : ∃ nb,nb=f.blocks.length:=⟨_,rfl⟩
 rw [<-hnb, <-hnp, <-har, <-hce] at HV
 rw [<-hnb] at hbc hba hbl
 rw [<-hnb, <-hnp, <-har, <-hce]
 have HNB:=h! hnb
 have HNP:=h! hnp
 have HAC:Hid (ar=f.arrays/\ce=f.cells):=h! ⟨har,hce⟩
 have HBA:=h! hba
 have HBX:=h! hbx
 have HA64:=h! (And.intro ha hc)
 clear hp ha hc hB hv hbx hnp hnb hba har hce
 go_enter Tryz.func42,Tryz.ntmps42
 go_upto_region 1 with (fail)
 have hA_:=(Below.refl w.heap.size w).alloc (aB _) (.cells #[.slice ap np cp,.int .i64 ar,.int .i64 ce,.slice ab nb cb] 25)
 have HW:=h! hA_
 clear hA_
 have B1:=h! (Box.new w #[.slice ap np cp,.int .i64 ar,.int .i64 ce,.slice ab nb cb] 25)
 have hz0_:(w.alloc (.cells #[.slice ap np cp,.int .i64 ar,.int .i64 ce,.slice ab nb cb] 25)).heap.size=w.heap.size+1:=World.size_alloc _ _
 generalize w.alloc (.cells #[.slice ap np cp,.int .i64 ar,.int .i64 ce,.slice ab nb cb] 25)=wv0 at *
 have hA_:=(Below.refl wv0.heap.size wv0).alloc (aB _) (.cells #[.slice none 0 0,.int .i64 0,.int .i64 0,.slice none 0 0] 25)
 replace B1:=h! (B1.out.later hA_)
 replace HW:=h! (HW.out.trans (hA_.mono HW.out.size))
 clear hA_
 have B2:=h! (Box.new wv0 #[.slice none 0 0,.int .i64 0,.int .i64 0,.slice none 0 0] 25)
 rw [hz0_] at B2
 clear hz0_
 generalize wv0.alloc (.cells #[.slice none 0 0,.int .i64 0,.int .i64 0,.slice none 0 0] 25)=wv at *
 obtain ⟨lB1,cB1,fB1⟩:=B1.out
 obtain ⟨lB2,cB2,fB2⟩:=B2.out
 go_wp2_with fail
 refine (tW (HV.out.below HW.out)).mono ?_
 rintro e w1 ⟨rfl,hb⟩
 clear lB1 cB1 fB1 lB2 cB2 fB2
 replace B1:=h! (B1.out.later hb)
 replace B2:=h! (B2.out.later hb)
 replace HW:=h! (HW.out.trans (hb.mono HW.out.size))
 clear hb
 obtain ⟨lB1,cB1,fB1⟩:=B1.out
 obtain ⟨lB2,cB2,fB2⟩:=B2.out
 by_cases hc0:d7 f=0
 rotate_left
 ·have HWHY:Hid (gY f b k=(mT,d7 f)):=h! (wK hc0)
  have hc1:(d7 f != 0)=true:=by simpa using hc0
  clear hc0
  go_wp2
  clear lB1 cB1 fB1 lB2 cB2 fB2
  obtain ⟨wz,hz,hB,hW⟩:=zEnd HW.out B2.out
  rw [<-hz]
  clear hz
  obtain ⟨lB2,cB2,fB2⟩:=hB
  refine bodyPost_ret (v:=.tuple #[.agg #[.slice none 0 0,.int .i64 0,.int .i64 0,.slice none 0 0],.int .i64 (d7 f)]) (by simp [results,Tryz.results42,go_sem, *]) rfl ⟨_,Foot.none,by rw [HWHY.out],by rw [HWHY.out];exact OFunc.zero,fun _ h=>h.elim,hW⟩
 have HC0:=h! hc0
 have hc1:(d7 f != 0)=false:=by simpa using hc0
 have HF:=h! (eX hc0).1
 obtain ⟨hn1,h512⟩:=gU HF.out
 rw [<-HNB.out] at hn1 h512
 have HSZ:=h! (oR hc0)
 obtain ⟨rfl,hbw⟩:=HBA.out (by omega)
 clear hc0
 cases hq1:decide (b < 0)
 rotate_left
 ·have HWHY:Hid (gY f b k=(mT,9)):=h! (kQ HC0.out (.inl (by simpa using hq1)))
  go_wp2
  clear lB1 cB1 fB1 lB2 cB2 fB2
  obtain ⟨wz,hz,hB,hW⟩:=zEnd HW.out B2.out
  rw [<-hz]
  clear hz
  obtain ⟨lB2,cB2,fB2⟩:=hB
  refine bodyPost_ret (v:=.tuple #[.agg #[.slice none 0 0,.int .i64 0,.int .i64 0,.slice none 0 0],.int .i64 9]) (by simp [results,Tryz.results42,go_sem, *]) rfl ⟨_,Foot.none,by rw [HWHY.out],by rw [HWHY.out];exact OFunc.zero,fun _ h=>h.elim,hW⟩
 cases hq2:decide ((nb:Int) <= b)
 rotate_left
 ·have HWHY:Hid (gY f b k=(mT,9)):=h! (kQ HC0.out (.inr (.inl (by rw [<-HNB.out];simpa using hq2))))
  go_wp2
  clear lB1 cB1 fB1 lB2 cB2 fB2
  obtain ⟨wz,hz,hB,hW⟩:=zEnd HW.out B2.out
  rw [<-hz]
  clear hz
  obtain ⟨lB2,cB2,fB2⟩:=hB
  refine bodyPost_ret (v:=.tuple #[.agg #[.slice none 0 0,.int .i64 0,.int .i64 0,.slice none 0 0],.int .i64 9]) (by simp [results,Tryz.results42,go_sem, *]) rfl ⟨_,Foot.none,by rw [HWHY.out],by rw [HWHY.out];exact OFunc.zero,fun _ h=>h.elim,hW⟩
 obtain ⟨bn,rfl⟩ : ∃ bn:Nat,b=bn:=⟨b.toNat,by simp at hq1;omega⟩
 have hbn:bn < nb:=by simp at hq2;omega
 obtain ⟨x,hx⟩ : ∃ x,f.blocks[bn]? = some x:=⟨_,aC (by have:=HNB.out;omega)⟩
 obtain ⟨api,aii,ati,cpi,cii,cti,hC⟩:=HBX.out bn x hx
 have HX:=h! hx
 have HTO:=h! (kX HF.out hx)
 rw [<-HNB.out] at HTO
 obtain ⟨k0,k1,k2,k3,k4,k5, -, -, -, -, -, -⟩:=hC.below HW.out hbw
 clear hC hx
 cases hq3:decide (k < 0)
 rotate_left
 ·have HWHY:Hid (gY f bn k=(mT,9)):=h! (kQ HC0.out (.inr (.inr (.inl (by simpa using hq3)))))
  go_wp2
  clear lB1 cB1 fB1 lB2 cB2 fB2
  obtain ⟨wz,hz,hB,hW⟩:=zEnd HW.out B2.out
  rw [<-hz]
  clear hz
  obtain ⟨lB2,cB2,fB2⟩:=hB
  refine bodyPost_ret (v:=.tuple #[.agg #[.slice none 0 0,.int .i64 0,.int .i64 0,.slice none 0 0],.int .i64 9]) (by simp [results,Tryz.results42,go_sem, *]) rfl ⟨_,Foot.none,by rw [HWHY.out],by rw [HWHY.out];exact OFunc.zero,fun _ h=>h.elim,hW⟩
 cases hq4:decide ((x.term.to.length:Int) <= k)
 rotate_left
 ·have HWHY:Hid (gY f bn k=(mT,9)):=h! (kQ HC0.out (.inr (.inr (.inr ⟨x,HX.out,by simpa using hq4⟩))))
  go_wp2
  clear lB1 cB1 fB1 lB2 cB2 fB2
  obtain ⟨wz,hz,hB,hW⟩:=zEnd HW.out B2.out
  rw [<-hz]
  clear hz
  obtain ⟨lB2,cB2,fB2⟩:=hB
  refine bodyPost_ret (v:=.tuple #[.agg #[.slice none 0 0,.int .i64 0,.int .i64 0,.slice none 0 0],.int .i64 9]) (by simp [results,Tryz.results42,go_sem, *]) rfl ⟨_,Foot.none,by rw [HWHY.out],by rw [HWHY.out];exact OFunc.zero,fun _ h=>h.elim,hW⟩
 obtain ⟨kn,rfl⟩ : ∃ kn:Nat,k=kn:=⟨k.toNat,by simp at hq3;omega⟩
 have hkn:kn < x.term.to.length:=by simp at hq4;omega
 obtain ⟨q,hq⟩ : ∃ q,x.term.to[kn]? = some q:=⟨_,aC hkn⟩
 obtain ⟨ht1,ht2⟩:=HTO.out q (aG hq)
 obtain ⟨tn,rfl⟩ : ∃ tn:Nat,q=tn:=⟨q.toNat,by omega⟩
 have HQT:=h! hq
 clear hq
 go_wp2_with fail
 clear k0 k1 k2 k3 k4 k5
 refine (aHL (HV.out.below HW.out)).mono ?_
 rintro e w2 ⟨rfl,hb⟩
 clear lB1 cB1 fB1 lB2 cB2 fB2
 replace B1:=h! (B1.out.later hb)
 replace B2:=h! (B2.out.later hb)
 replace HW:=h! (HW.out.trans (hb.mono HW.out.size))
 clear hb
 obtain ⟨lB1,cB1,fB1⟩:=B1.out
 obtain ⟨lB2,cB2,fB2⟩:=B2.out
 obtain ⟨sz,hsz⟩ : ∃ sz,sz=jF f:=⟨_,rfl⟩
 rw [show aAT f=sz from (if_pos HC0.out).trans hsz.symm]
 have HZ:=h! hsz
 clear hsz
 cases hq5:((nb:Int) == 512)
 rotate_left
 ·have HWHY:Hid (gY f bn kn=(mT,2)):=h! (mF HC0.out HX.out hkn (.inl (by rw [<-HNB.out];simp at hq5;omega)))
  go_wp2
  clear lB1 cB1 fB1 lB2 cB2 fB2
  obtain ⟨wz,hz,hB,hW⟩:=zEnd HW.out B2.out
  rw [<-hz]
  clear hz
  obtain ⟨lB2,cB2,fB2⟩:=hB
  refine bodyPost_ret (v:=.tuple #[.agg #[.slice none 0 0,.int .i64 0,.int .i64 0,.slice none 0 0],.int .i64 2]) (by simp [results,Tryz.results42,go_sem, *]) rfl ⟨_,Foot.none,by rw [HWHY.out],by rw [HWHY.out];exact OFunc.zero,fun _ h=>h.elim,hW⟩
 cases hq6:(sz == 4096)
 rotate_left
 ·have HWHY:Hid (gY f bn kn=(mT,2)):=h! (mF HC0.out HX.out hkn (.inr (by rw [<-HZ.out];simpa using hq6)))
  go_wp2
  clear lB1 cB1 fB1 lB2 cB2 fB2
  obtain ⟨wz,hz,hB,hW⟩:=zEnd HW.out B2.out
  rw [<-hz]
  clear hz
  obtain ⟨lB2,cB2,fB2⟩:=hB
  refine bodyPost_ret (v:=.tuple #[.agg #[.slice none 0 0,.int .i64 0,.int .i64 0,.slice none 0 0],.int .i64 2]) (by simp [results,Tryz.results42,go_sem, *]) rfl ⟨_,Foot.none,by rw [HWHY.out],by rw [HWHY.out];exact OFunc.zero,fun _ h=>h.elim,hW⟩
 have hnb5:nb < 512:=by simp at hq5;omega
 have HOK:Hid (gY f bn kn=(eZ f bn kn tn ((x.term.to.set kn (f.blocks.length:Int)).contains (tn:Int)),0)):=h! (rV HC0.out HX.out HQT.out (by rw [<-HNB.out];omega) (by rw [<-HZ.out];simpa using hq6))
 go_wp2_with fail
 clear hq1 hq2 hq3 hq4 hq5 hq6 hc1
 refine (aGX (HV.out.below HW.out) HSZ.out.1 HSZ.out.2).mono ?_
 rintro e w3 ⟨vo,SO,rfl,hO,hFr,hb⟩
 obtain ⟨⟨pa,bv,SQ,SB,rfl,hQ,hOB,hQB,hsq,hsb⟩,hlt, -, -⟩:=hO
 obtain ⟨pa2,pc2,rfl⟩:=hQ.ints.form
 have hl2:w.heap.size+2 <= w2.heap.size:=by omega
 have hl3:w.heap.size+2 <= w3.heap.size:=aP hl2 hb.size
 have HQ:Hid (Holds [w.heap.size,w.heap.size+1] (w.heap.size+2) w3 SQ (fun W=>eV W SQ (.slice pa2 np pc2) f.params)):=h! (by
  have h9:=((iL hQ (fun k hk=>hFr k (hsq k hk))).from hl2).low (bs':=[w.heap.size,w.heap.size+1]) (by simp)
  rw [<-HNP.out] at h9;exact h9)
 have HBK:Hid (Holds [w.heap.size,w.heap.size+1] (w.heap.size+2) w3 SB (fun W=>gS W SB bv f.blocks)):=h! (((oJ OBlock.nice hOB (fun k hk=>hFr k (hsb k hk))).from hl2).low (by simp))
 have HQB:=h! hQB
 obtain ⟨g,cap,hbv⟩ : ∃ g cap,bv = .slice (some ⟨g,0,none⟩) nb cap:=by
  obtain ⟨cs,G,F,hp⟩:=hOB
  obtain ⟨g,cap,hv, -⟩:=hp.row.addr (by have:=HNB.out;omega)
  exact ⟨g,cap,by rw [HNB.out];exact hv⟩
 subst hbv
 rw [<-HAC.out.1, <-HAC.out.2, <-HNP.out]
 clear hQ hOB hQB hsq hsb hlt hFr
 clear lB1 cB1 fB1 lB2 cB2 fB2
 replace B1:=h! (B1.out.later hb)
 replace B2:=h! (B2.out.later hb)
 replace HW:=h! (HW.out.trans (hb.mono HW.out.size))
 clear hb
 obtain ⟨lB1,cB1,fB1⟩:=B1.out
 obtain ⟨lB2,cB2,fB2⟩:=B2.out
 go_upto_region 10 with (fail)
 replace HQ:=h! (HQ.out.more (aB _))
 replace HBK:=h! (HBK.out.more (aB _))
 have nB3B1:w3.heap.size ≠ w.heap.size:=fun e=>by have:=lB1;omega
 have nB1B3:w.heap.size ≠ w3.heap.size:=fun e=>nB3B1 e.symm
 have nB3B2:w3.heap.size ≠ w.heap.size+1:=fun e=>by have:=lB2;omega
 have nB2B3:w.heap.size+1 ≠ w3.heap.size:=fun e=>nB3B2 e.symm
 clear lB1 cB1 fB1 lB2 cB2 fB2
 have hA_:=(Below.refl w3.heap.size w3).alloc (aB _) (.cells #[.slice pa2 np pc2,.int .i64 ar,.int .i64 ce,.slice (some ⟨g,0,none⟩) nb cap] 25)
 replace B1:=h! (B1.out.later hA_)
 replace B2:=h! (B2.out.later hA_)
 replace HQ:=h! (HQ.out.later hA_)
 replace HBK:=h! (HBK.out.later hA_)
 replace HW:=h! (HW.out.trans (hA_.mono HW.out.size))
 clear hA_
 have B3:=h! (Box.new w3 #[.slice pa2 np pc2,.int .i64 ar,.int .i64 ce,.slice (some ⟨g,0,none⟩) nb cap] 25)
 generalize w3.alloc (.cells #[.slice pa2 np pc2,.int .i64 ar,.int .i64 ce,.slice (some ⟨g,0,none⟩) nb cap] 25)=w4 at *
 obtain ⟨lB1,cB1,fB1⟩:=B1.out
 obtain ⟨lB2,cB2,fB2⟩:=B2.out
 obtain ⟨lB3,cB3,fB3⟩:=B3.out
 generalize w3.heap.size=b3 at *
 clear nB3B1 nB1B3 nB3B2 nB2B3
 obtain ⟨g',cap',apx,aix,atx,cpx,cix,ctx,S1,S2,S3,hv,hgl,hSg,hC,hfr, -, -,hto, -, -,i3, -, -, -,hng, -, -,hcl⟩:=HBK.out.now.open HX.out
 obtain ⟨rfl,rfl⟩ : g=g' /\ cap=cap':=by injection hv with h1 h2 h3;injection h1 with h1;injection h1 with h1;exact ⟨h1,h3⟩
 obtain ⟨k0,k1,k2,k3,k4,k5, -, -, -, -, -, -⟩:=hC
 obtain ⟨gt,ctt,ht,hSt,hgtl,hkc,hkf,hset⟩:=hto.addr HQT.out
 cases ht
 clear hv hto
 go_upto_region 11 with (fail)
 go_quiet (fail)
 clear lB1 cB1 fB1 lB2 cB2 fB2 lB3 cB3 fB3
 clear k0 k1 k2 k3 k4 k5 hkc hkf hcl hset hfr hng hSt
 replace HW:=h! (d8 HW.out nq)
 replace B1:=h! (B1.out.drewN nq)
 replace B2:=h! (B2.out.drewN nq)
 replace B3:=h! (B3.out.drewN nq)
 replace HQ:=h! (HQ.out.later (d8 (Below.refl _ _) nq))
 replace HBK:=h! (HBK.out.later (d8 (Below.refl _ _) nq))
 generalize w4.drewN nq=wq at *
 obtain ⟨lB1,cB1,fB1⟩:=B1.out
 obtain ⟨lB2,cB2,fB2⟩:=B2.out
 obtain ⟨lB3,cB3,fB3⟩:=B3.out
 obtain ⟨g',cap',apx,aix,atx,cpx,cix,ctx,S1,S2,S3,hv,hgl,hSg,hC,hfr, -, -,hto, -, -,i3, -, -, -,hng, -, -,hcl⟩:=HBK.out.now.open HX.out
 obtain ⟨rfl,rfl⟩ : g=g' /\ cap=cap':=by injection hv with h1 h2 h3;injection h1 with h1;injection h1 with h1;exact ⟨h1,h3⟩
 obtain ⟨k0,k1,k2,k3,k4,k5, -, -, -, -, -, -⟩:=hC
 obtain ⟨gt,ctt,ht,hSt,hgtl,hkc,hkf,hset⟩:=hto.addr HQT.out
 cases ht
 clear hv hto
 have hni:In64 (nb:Int):=⟨by omega,by omega⟩
 have hO5:=hset (nb:Int) hni
 have HSG:=h! hSg
 have HST:=h! (i3 _ hSt)
 have HOF:Hid (Off (Foot.one gt) wq (wq.setCell ⟨gt,kn,none⟩ (.int .i64 (nb:Int)))):=h! (Off.set wq ⟨gt,kn,none⟩ (.int .i64 (nb:Int)))
 have HBK5:=h! (hcl _ _ (HOF.out.mono fun k _ hk=>by cases hk;exact hSt) hO5)
 have HO5:=h! hO5
 have hgg:g ≠ gt:=fun e=>by subst e;exact hng.2.2 hSt
 have k4':=(HOF.out.cell hgl (fun h=>hgg h)).trans k4
 have k0':=(HOF.out.cell hgl (fun h=>hgg h)).trans k0
 have HI3:Hid (∀ k,S3 k -> SB k):=h! i3
 clear hcl hO5 hset hSt hSg hng i3
 go_upto_region 13 with (fail)
 clear lB1 cB1 fB1 lB2 cB2 fB2 lB3 cB3 fB3
 clear k0 k1 k2 k3 k4 k5 hkc hkf hfr
 generalize wq.setCell ⟨gt,kn,none⟩ (.int .i64 (nb:Int))=w5 at *
 have hbs:∀ q ∈ [b3,w.heap.size,w.heap.size+1], ¬ Foot.one gt q:=fun q hq h=>by cases h;exact HBK.out.free _ HST.out hq
 replace HW:=h! (HW.out.trans (HOF.out.below HW.out.size (fun k _ hk=>by cases hk;have:=HBK.out.base _ HST.out;omega)))
 replace B1:=h! (B1.out.off HOF.out (hbs _ (by simp)))
 replace B2:=h! (B2.out.off HOF.out (hbs _ (by simp)))
 replace B3:=h! (B3.out.off HOF.out (hbs _ (by simp)))
 replace HQ:=h! (HQ.out.off HOF.out (fun k h1 h2=>HQB.out k h1 (by cases h2;exact HST.out)))
 have HBK6:Hid (Holds [b3,w.heap.size,w.heap.size+1] (w.heap.size+2) w5 SB (fun W=>gS W SB (.slice (some ⟨g,0,none⟩) nb cap) (f.blocks.set bn (fR kn (nb:Int) x)))) :=
  h! ⟨HBK5.out,fun _ _ h hk=>h.keep OBlock.nice hk,HBK5.out.lt,HBK.out.base,HBK.out.free⟩
 clear HBK HBK5 HOF hbs hgg hgl
 obtain ⟨lB1,cB1,fB1⟩:=B1.out
 obtain ⟨lB2,cB2,fB2⟩:=B2.out
 obtain ⟨lB3,cB3,fB3⟩:=B3.out
 have HLT:Hid ((x.term.to.set kn (nb:Int)).length=x.term.to.length):=h! (bT)
 go_wp2_with fail
 refine (nY HO5.out.ints).mono ?_
 rintro e w6 ⟨rfl,rfl⟩
 clear k4' k0' HO5 hni
 obtain ⟨st,hst⟩ : ∃ st,st=(x.term.to.set kn (nb:Int)).contains (tn:Int):=⟨_,rfl⟩
 rw [<-hst]
 rw [<-HNB.out, <-hst] at HOK
 have HLB:Hid ((f.blocks.set bn (fR kn (nb:Int) x)).length=nb):=h! (by rw [bT,HNB.out])
 obtain ⟨y,hy⟩ : ∃ y,(f.blocks.set bn (fR kn (nb:Int) x))[tn]? = some y:=⟨_,aC (by have:=HLB.out;omega)⟩
 have HY:=h! hy
 have HYB:Hid (∃ y0 ∈ f.blocks,y0.phis=y.phis):=h! (by
  rw [bP] at hy
  split at hy
  ·rename_i e
   subst e
   rw [if_pos (by have:=HNB.out;omega)] at hy
   cases hy
   exact ⟨x,aG HX.out,rfl⟩
  exact ⟨y,aG hy,rfl⟩)
 have HYP:Hid (∀ p ∈ y.phis,p.src.length=p.vals.length/\p.vals.length <= 512):=h! (by
  obtain ⟨y0,h1,h2⟩:=HYB.out
  rw [<-h2]
  exact (jC HF.out).phi y0 h1)
 clear hst
 obtain ⟨g',cap',apy,aiy,aty,cpy,ciy,cty,T1,T2,T3,hv,hgl,hSg,hC,hfr,hph, -, -,i1, -, -, -, -, -,hng,hcl, -, -⟩:=HBK6.out.now.open hy
 obtain ⟨rfl,rfl⟩ : g=g' /\ cap=cap':=by injection hv with h1 h2 h3;injection h1 with h1;injection h1 with h1;exact ⟨h1,h3⟩
 obtain ⟨k0, -, -, -, -, -, -, -, -, -, -, -⟩:=hC
 have HPH:=h! hph
 have HCL:=h! hcl
 have HT1:=h! i1
 have HNG:Hid (¬ T1 g):=h! hng.1
 have HK0:=h! k0
 obtain ⟨ny,hny⟩ : ∃ ny,ny=y.phis.length:=⟨_,rfl⟩
 rw [<-hny] at k0 HK0 HPH HCL
 have HNY:=h! hny
 have hny5:ny <= 100000:=by
  obtain ⟨y0,h1,h2⟩:=HYB.out
  have:=(HSZ.out.1 y0 h1).1
  rw [h2] at this;omega
 have hl5:b3 < w5.heap.size:=B3.out.lt
 clear hv hfr hph i1 hng hcl hy hny hSg
 go_wp2_with fail
 clear k0
 go_loopw [102] (fun i wr => ∃ (j:Nat) (Sp:Foot),j <= ny/\i = .int .i64 j/\Off T1 w5 wr/\nM wr Sp (.slice apy ny cpy) (upTo (fD bn nb st) y.phis j) /\ ∀ k,Sp k -> T1 k \/ w5.heap.size <= k) (fun i _=>ny - (intOf i).toNat)
 case atStart=>exact ⟨0,T1,aO _,rfl,Off.refl _ _,by rw [aAB];exact HPH.out,fun k h=>.inl h⟩
 obtain ⟨j,Sp,hj,rfl,hof,hop,hsp⟩:=hrel
 clear lB1 cB1 fB1 lB2 cB2 fB2 lB3 cB3 fB3
 have HOF:=h! hof
 have HOP:=h! hop
 have HSP:=h! hsp
 clear hof hop hsp
 have hfb:∀ q ∈ [b3,w.heap.size,w.heap.size+1], ¬ T1 q:=fun q hq h=>HBK6.out.free _ (HT1.out _ h) hq
 replace HW:=h! (HW.out.trans (HOF.out.below HW.out.size (fun k _ hk=>by have:=HBK6.out.base _ (HT1.out k hk);omega)))
 replace B1:=h! (B1.out.off HOF.out (hfb _ (by simp)))
 replace B2:=h! (B2.out.off HOF.out (hfb _ (by simp)))
 replace B3:=h! (B3.out.off HOF.out (hfb _ (by simp)))
 clear hfb
 have k0:=(HOF.out.cell hgl HNG.out).trans HK0.out
 obtain ⟨lB1,cB1,fB1⟩:=B1.out
 obtain ⟨lB2,cB2,fB2⟩:=B2.out
 obtain ⟨lB3,cB3,fB3⟩:=B3.out
 by_cases hlt:j < ny
 ·obtain ⟨p,hpj⟩ : ∃ p,y.phis[j]? = some p:=⟨_,aC (by have:=HNY.out;omega)⟩
  obtain ⟨hup,hnx⟩:=aE8 (g:=fD bn nb st) hpj
  obtain ⟨gp,capp,af,av,cf,cv,cs,G,Sf,Sv,hv,hgpl,hGg,hGS,hC,hfr,hc2,hc3,hrow,hsf,hsv,iSf,iSv,hfv,hfG,hvG,hclo⟩:=HOP.out.open hup
  simp only [aC2, <-HNY.out] at hv hrow hclo
  cases hv
  obtain ⟨p0,p1,p2,p3,hsrc,hvals, -, -⟩:=hC
  have HUP:=h! hup
  have HNX:=h! hnx
  have HPJ:=h! (HYP.out p (aG hpj))
  have HC23:=h! (And.intro hc2 hc3)
  have HROW:=h! hrow
  have HSF:=h! hsf
  have HSV:=h! hsv
  have HIS:=h! (And.intro hGS (And.intro iSf iSv))
  have HGG:=h! hGg
  have HFV:=h! (And.intro hfv (And.intro hfG hvG))
  have HCLO:=h! hclo
  have HSRC:=h! hsrc
  clear hup hnx hpj hc2 hc3 hrow hsf hsv hGS iSf iSv hGg hfv hfG hvG hclo hsrc hvals
  have hni:In64 (nb:Int):=⟨by omega,by omega⟩
  go_wp2_with fail
  refine (mZ HSRC.out).mono ?_
  rintro e w9 ⟨rfl,rfl⟩
  by_cases hm:(bn:Int) ∈ p.src
  ·rw [u5 hm]
   obtain ⟨ix,hix⟩ : ∃ ix,ix=p.src.idxOf (bn:Int):=⟨_,rfl⟩
   rw [<-hix]
   have hixl:ix < p.src.length:=by rw [hix];exact cM hm
   have HAT:Hid (p.src[ix]? = some (bn:Int)):=h! (by rw [aC hixl];subst hix;rw [List.getElem_idxOf])
   have HM:=h! hm
   have HIX:=h! hix
   clear hm hix
   cases st
   ·obtain ⟨gs,cgs,hvs,hSgs,hgsl,hcs,hfrs,hsets⟩:=HSF.out.addr HAT.out
    cases hvs
    have HSGS:=h! hSgs
    have HPUT:Hid (eV (wr.setCell ⟨gs,ix,none⟩ (.int .i64 (nb:Int))) Sf (.slice (some ⟨gs,0,none⟩) p.src.length cf) (p.src.set ix (nb:Int))):=h! (hsets _ hni)
    have HOX:Hid (Off (Foot.one gs) wr (wr.setCell ⟨gs,ix,none⟩ (.int .i64 (nb:Int)))):=h! (Off.set wr ⟨gs,ix,none⟩ (.int .i64 (nb:Int)))
    have HNEW:Hid (nM (wr.setCell ⟨gs,ix,none⟩ (.int .i64 (nb:Int))) (fun k=>Sp k \/ Sf k \/ Sv k) (.slice (some ⟨gp,0,none⟩) ny cpy) (upTo (fD bn nb false) y.phis (j+1))):=h! (by
     have h9:=HCLO.out (wr.setCell ⟨gs,ix,none⟩ (.int .i64 (nb:Int))) _ _ (p.src.set ix (nb:Int)) p.vals Sf Sv (HOX.out.mono fun k _ hk=>by cases hk;exact .inr (.inl hSgs)) (by
      rw [qU HC23.out.1,qU HC23.out.2]
      exact HROW.out.off HOX.out fun k h1 h2=>by cases h2;exact HFV.out.2.1 _ hSgs h1) HPUT.out (HSV.out.off HOX.out fun k h1 h2=>by cases h2;exact HFV.out.1 _ hSgs h1) HFV.out.1 (fun k h=>.inl h) (fun k h=>.inl h)
     rw [<-HNX.out,rX HM.out, <-HIX.out]
     exact h9)
    clear hSgs hsets
    go_wp2
    go_roundw
    case rel=>exact ⟨j+1,_,hlt,by go_num,HOF.out.grow HOX.out (fun k hk=>by cases hk;exact HSP.out _ (HIS.out.2.1 _ HSGS.out)),HNEW.out,fun k hk=>HSP.out _ (hk.elim id fun h=>h.elim (HIS.out.2.1 k) (HIS.out.2.2 k))⟩
    simp [intOf];omega
   have hlv:ix < p.vals.length:=by have:=HPJ.out.1;omega
   obtain ⟨pv,hpv⟩ : ∃ pv,p.vals[ix]? = some pv:=⟨_,aC hlv⟩
   obtain ⟨gv,cgv,hvv,hSgv,hgvl,hcv,hfrv, -⟩:=HSV.out.addr hpv
   cases hvv
   have HPV:Hid (p.vals.getD (p.src.idxOf (bn:Int)) 0=pv):=h! (by rw [<-HIX.out];exact getD_some hpv)
   have hp64:In64 pv:=HSV.out.2 pv (aG hpv)
   have HSGV:=h! hSgv
   obtain ⟨XF,hX8,hX21,hX24,hXQ⟩ : ∃ XF:Nat -> Foot,(∀ k,XF 8 k ↔ Sf k)/\(∀ k,XF 21 k ↔ Sv k)/\(∀ k,XF 24 k ↔ k=gp) /\ ∀ q k,XF q k -> q=8 \/ q=21 \/ q=24 :=
    ⟨fun q=>if q=8 then Sf else if q=21 then Sv else if q=24 then Foot.one gp else Foot.none,fun k=>by simp,fun k=>by simp,fun k=>by simp [Foot.one],fun q k h=>by
     by_cases e:q=8
     ·exact .inl e
     by_cases e2:q=21
     ·exact .inr (.inl e2)
     by_cases e3:q=24
     ·exact .inr (.inr e3)
     simp only [if_neg e,if_neg e2,if_neg e3] at h;exact h.elim⟩
   have HX:=h! (And.intro hX8 (And.intro hX21 (And.intro hX24 hXQ)))
   have HLF:Hid (∀ k,Sf k -> k < wr.heap.size):=h! HSF.out.lt
   have HLV:Hid (∀ k,Sv k -> k < wr.heap.size):=h! HSV.out.lt
   have N8:Hid (∀ k,(Sf k \/ wr.heap.size <= k) -> ∀ q,q ≠ 8 -> ¬ XF q k):=h! (fun k hk q hq hx=>by
    rcases hXQ q k hx with e | e | e
    ·exact hq e
    ·subst e
     have h1:=(hX21 k).1 hx
     rcases hk with hk | hk
     ·exact HFV.out.1 k hk h1
     have:=HLV.out k h1;omega
    subst e
    have h1:=(hX24 k).1 hx
    subst h1
    rcases hk with hk | hk
    ·exact HFV.out.2.1 _ hk HGG.out
    omega)
   have N21:Hid (∀ k,(Sv k \/ wr.heap.size <= k) -> ∀ q,q ≠ 21 -> ¬ XF q k):=h! (fun k hk q hq hx=>by
    rcases hXQ q k hx with e | e | e
    ·subst e
     have h1:=(hX8 k).1 hx
     rcases hk with hk | hk
     ·exact HFV.out.1 k h1 hk
     have:=HLF.out k h1;omega
    ·exact hq e
    subst e
    have h1:=(hX24 k).1 hx
    subst h1
    rcases hk with hk | hk
    ·exact HFV.out.2.2 _ hk HGG.out
    omega)
   have N24:Hid (∀ k,G k -> ∀ q,q ≠ 24 -> ¬ XF q k):=h! (fun k hk q hq hx=>by
    rcases hXQ q k hx with e | e | e
    ·subst e;exact HFV.out.2.1 k ((hX8 k).1 hx) hk
    ·subst e;exact HFV.out.2.2 k ((hX21 k).1 hx) hk
    exact hq e)
   have NGP:Hid (∀ q,XF q gp -> ¬ q ≠ 24):=h! (fun q hx hq=>N24.out gp HGG.out q hq hx)
   have NGV:Hid (∀ q,XF q gv -> ¬ q ≠ 21):=h! (fun q hx hq=>N21.out gv (.inl HSGV.out) q hq hx)
   have xW:∀ q k,XF q k -> k < wr.heap.size:=fun q k h=>by
    rcases hXQ q k h with e | e | e
    ·subst e;exact HLF.out k ((hX8 k).1 h)
    ·subst e;exact HLV.out k ((hX21 k).1 h)
    subst e;have:=(hX24 k).1 h;omega
   have xI:∀ w w' : World,True -> Below w.heap.size w w' -> True:=fun _ _ _ _=>trivial
   have xI0:True:=trivial
   have hSP:∀ q k,XF q k -> Sp k:=fun q k h=>by
    rcases hXQ q k h with e | e | e
    ·subst e;exact HIS.out.2.1 k ((hX8 k).1 h)
    ·subst e;exact HIS.out.2.2 k ((hX21 k).1 h)
    subst e;have:=(hX24 k).1 h;subst this;exact HIS.out.1 _ HGG.out
   have xBASE:∀ k,k < wr.heap.size -> Four.All XF k -> w.heap.size <= k:=fun k _ ⟨q,h⟩=>by
    rcases HSP.out k (hSP q k h) with h | h
    ·have:=HBK6.out.base _ (HT1.out k h);omega
    have:=HW.out.size;have:=HOF.out.size;omega
   have HXSP:=h! hSP
   clear hX8 hX21 hX24 hXQ hSP hpv hSgv
   clear lB1 cB1 fB1 lB2 cB2 fB2 lB3 cB3 fB3
   go_upto_region 22 with (fail)
   refine Four.wp_region_grow (XF:=XF) (I:=(fun _=>True)) 25 (fun ν kz=>match kz with | 7=>.made wr.heap.size (fun b=>.slice (some ⟨b,0,none⟩) 1 1) #[.int .i64 (nb:Int)] | 8=>.holds (fun u w' => ∃ (g1 c1:Nat),u = .slice (some ⟨g1,0,none⟩) (p.src.length+1) c1/\eV w' (Foot.one g1) u (p.src ++ [(nb:Int)])/\(Sf g1 \/ wr.heap.size <= g1)) | 20=>.made wr.heap.size (fun b=>.slice (some ⟨b,0,none⟩) 1 1) #[.int .i64 pv] | 21=>.holds (fun u w' => ∃ (g1 c1:Nat),u = .slice (some ⟨g1,0,none⟩) (p.vals.length+1) c1/\eV w' (Foot.one g1) u (p.vals ++ [pv])/\(Sv g1 \/ wr.heap.size <= g1) /\ ∀ g8 c8, ν 8 = .slice (some ⟨g8,0,none⟩) (p.src.length+1) c8 -> g1 ≠ g8) | 24=>.holds (fun u w'=>ORow w' G 83 4 (.slice (some ⟨gp,0,none⟩) ny cpy) ny (cs.set (j * 4+2) (ν 8))) | _=>.plain) (by kernel_rfl) (by kernel_rfl) ?_ ?_ xW xI xI0 ?_ (fun ν => ?_)
   ·(intro ν k;(try dsimp only);split <;> first | exact True.intro | (intro u w1 w2 hu hb;first | (obtain ⟨g1,c1,e1,h1,h2⟩:=hu;exact ⟨g1,c1,e1,h1.off hb (fun k hk ⟨q,hq,hx⟩=>by cases hk;exact N8.out g1 h2 q hq hx),h2⟩) | (obtain ⟨g1,c1,e1,h1,h2,h3⟩:=hu;exact ⟨g1,c1,e1,h1.off hb (fun k hk ⟨q,hq,hx⟩=>by cases hk;exact N21.out g1 h2 q hq hx),h2,h3⟩) | exact hu.off hb (fun k hk ⟨q,hq,hx⟩=>N24.out k hk q hq hx)))
   ·(intro ν ν' k h;first | rfl | ((try dsimp only);split <;> first | rfl | (rw [h 8 (by kernel_rfl)])))
   ·(intro ν j B mk A h;(try dsimp only at h);split at h <;> first | (cases h;exact Nat.le_refl _) | cases h)
   simp only [aQ,aV,aR,aY]
   iterate 5 (refine Four.Grow.val (v := ?_) rfl rfl (fun wg hbg hdg => ?_) ?_;rotate_left;(focus (clear hbg hdg;first | (go_simp;done) | (go_simp;with_reducible rfl)));simp only [Act.put,aA,aE,aF])
   refine Four.Grow.val (v := ?_) rfl rfl (fun wg hbg hdg => ?_) ?_
   rotate_left
   focus ((have z2:=(hbg.1.cell hgpl (fun ⟨q,h1,h2,h3⟩=>(fun hne=>NGP.out q h3 hne) (fun e=>by subst e;exact absurd (h2.symm.trans (by kernel_rfl:_=true)) dN))).trans p2);clear hbg hdg;first | (go_simp;done) | (go_simp;with_reducible rfl))
   simp only [Act.put,aA,aE,aF]
   refine Four.Grow.val (v := ?_) rfl rfl (fun wg hbg hdg => ?_) ?_
   rotate_left
   focus (clear hbg hdg;first | (go_simp;done) | (go_simp;with_reducible rfl))
   simp only [Act.put,aA,aE,aF]
   refine Four.Grow.made (T := ?_) rfl rfl (fun wg hbg hdg => ?_) ?_
   rotate_left
   focus (clear hbg hdg;first | (go_simp;done) | (go_simp;with_reducible rfl))
   simp only [Act.put,Known.val,aA,aE,aF]
   refine Four.Grow.gives rfl (fun wg hbg hdg => ?_) ?_
   focus ((obtain ⟨bx,e7,hbx,hB7⟩:=hdg 7 (by kernel_rfl));simp only [e7];exact mG (xs:=p.src) (n:=p.src.length) _ _ rfl rfl rfl rfl (HSF.out.off hbg.1 (fun k hk ⟨q,hq,_,hx⟩=>N8.out k (.inl hk) q hq hx)) hB7 hni (by have:=HPJ.out;omega) (fun k hk=>(HX.out.1 k).2 hk) (fun g1 c1 w'' h2 h3=>⟨g1,c1,rfl,h2,h3.imp_right (aP hbg.1.size)⟩))
   simp only [Act.put,Known.val,aA,aE,aF]
   iterate 3 (refine Four.Grow.val (v := ?_) rfl rfl (fun wg hbg hdg => ?_) ?_;rotate_left;(focus (clear hbg hdg;first | (go_simp;done) | (go_simp;with_reducible rfl)));simp only [Act.put,aA,aE,aF])
   refine Four.Grow.val (v := ?_) rfl rfl (fun wg hbg hdg => ?_) ?_
   rotate_left
   focus ((have z3:=(hbg.1.cell hgpl (fun ⟨q,h1,h2,h3⟩=>(fun hne=>NGP.out q h3 hne) (fun e=>by subst e;exact absurd (h2.symm.trans (by kernel_rfl:_=true)) dN))).trans p3);clear hbg hdg;first | (go_simp;done) | (go_simp;with_reducible rfl))
   simp only [Act.put,aA,aE,aF]
   iterate 3 (refine Four.Grow.val (v := ?_) rfl rfl (fun wg hbg hdg => ?_) ?_;rotate_left;(focus (clear hbg hdg;first | (go_simp;done) | (go_simp;with_reducible rfl)));simp only [Act.put,aA,aE,aF])
   refine Four.Grow.val (v := ?_) rfl rfl (fun wg hbg hdg => ?_) ?_
   rotate_left
   focus ((have z3:=(hbg.1.cell hgpl (fun ⟨q,h1,h2,h3⟩=>(fun hne=>NGP.out q h3 hne) (fun e=>by subst e;exact absurd (h2.symm.trans (by kernel_rfl:_=true)) dN))).trans p3);clear hbg hdg;first | (go_simp;done) | (go_simp;with_reducible rfl))
   simp only [Act.put,aA,aE,aF]
   iterate 2 (refine Four.Grow.val (v := ?_) rfl rfl (fun wg hbg hdg => ?_) ?_;rotate_left;(focus (clear hbg hdg;first | (go_simp;done) | (go_simp;with_reducible rfl)));simp only [Act.put,aA,aE,aF])
   refine Four.Grow.val (v := ?_) rfl rfl (fun wg hbg hdg => ?_) ?_
   rotate_left
   focus ((have z4:=(hbg.1.cell hgvl (fun ⟨q,h1,h2,h3⟩=>(fun hne=>NGV.out q h3 hne) (fun e=>by subst e;exact absurd (h2.symm.trans (by kernel_rfl:_=true)) dN))).trans hcv);clear hbg hdg;first | (go_simp;done) | (go_simp;with_reducible rfl))
   simp only [Act.put,aA,aE,aF]
   refine Four.Grow.made (T := ?_) rfl rfl (fun wg hbg hdg => ?_) ?_
   rotate_left
   focus (clear hbg hdg;first | (go_simp;done) | (go_simp;with_reducible rfl))
   simp only [Act.put,Known.val,aA,aE,aF]
   refine Four.Grow.gives rfl (fun wg hbg hdg => ?_) ?_
   focus ((obtain ⟨bx,e7,hbx,hB7⟩:=hdg 20 (by kernel_rfl));(have h8:∃ (g1 c1:Nat), ν 8 = .slice (some ⟨g1,0,none⟩) (p.src.length+1) c1/\eV wg (Foot.one g1) (ν 8) (p.src ++ [(nb:Int)])/\(Sf g1 \/ wr.heap.size <= g1):=hdg 8 (by kernel_rfl));(obtain ⟨g8,c8,e8,o8,q8⟩:=h8);simp only [e7];exact mG (xs:=p.vals) (n:=p.vals.length) _ _ rfl rfl rfl rfl (HSV.out.off hbg.1 (fun k hk ⟨q,hq,_,hx⟩=>N21.out k (.inl hk) q hq hx)) hB7 hp64 (by have:=HPJ.out;omega) (fun k hk=>(HX.out.2.1 k).2 hk) (fun g1 c1 w'' h2 h3=>⟨g1,c1,rfl,h2,h3.imp_right (aP hbg.1.size),fun g' c' e'=>by rw [e8] at e';cases e';intro e9;subst e9;have hlt8:=o8.lt _ rfl;rcases h3 with h3 | h3;(rcases q8 with q8 | q8;exact HFV.out.1 _ q8 h3;have:=HLV.out _ h3;omega);omega⟩))
   simp only [Act.put,Known.val,aA,aE,aF]
   iterate 2 (refine Four.Grow.val (v := ?_) rfl rfl (fun wg hbg hdg => ?_) ?_;rotate_left;(focus (clear hbg hdg;first | (go_simp;done) | (go_simp;with_reducible rfl)));simp only [Act.put,aA,aE,aF])
   refine Four.Grow.turns rfl (fun wg hbg hdg => ?_) ?_
   focus ((have h8:∃ (g1 c1:Nat), ν 8 = .slice (some ⟨g1,0,none⟩) (p.src.length+1) c1/\eV wg (Foot.one g1) (ν 8) (p.src ++ [(nb:Int)])/\(Sf g1 \/ wr.heap.size <= g1):=hdg 8 (by kernel_rfl));(obtain ⟨g8,c8,e8,o8,q8⟩:=h8);clear hdg;simp only [e8];(have hr:=HROW.out.off hbg.1 (fun k hk ⟨q,hq,_,hx⟩=>N24.out k hk q hq hx));(obtain ⟨g9,c9,e9, -, -, -, -,hc9,hf9⟩:=hr.addr (by omega));cases e9;(have z2:=hc9 _ _ HC23.out.1);refine ⟨wg.setCell ⟨gp,j * 4+2,none⟩ (.slice (some ⟨g8,0,none⟩) (p.src.length+1) c8), ?_,hr.set rfl (by omega) _ _,⟨(Off.set wg ⟨gp,j * 4+2,none⟩ _).mono (fun k _ hk=>(HX.out.2.2.1 k).2 hk),fun h=>h⟩⟩;clear hbg hr q8 o8;(first | (go_simp;done) | (go_simp;with_reducible rfl)))
   simp only [Act.put,Known.val,aA,aE,aF]
   intro wg hb hf hap
   obtain ⟨bBX,hνBX,hBBX,hXBX⟩:=hf 7 (by omega)
   obtain ⟨bBY,hνBY,hBBY,hXBY⟩:=hf 20 (by omega)
   have nBXBY:bBX ≠ bBY:=fun e=>hap 7 20 (by omega) (by omega) (by omega) rfl rfl (by rw [hνBX,hνBY,e])
   have nBYBX:bBY ≠ bBX:=fun e=>hap 20 7 (by omega) (by omega) (by omega) rfl rfl (by rw [hνBY,hνBX,e])
   simp only [hνBX,hνBY]
   clear hνBX hνBY
   clear hap
   have gBX:=aP HW.out.size hBBX
   clear hBBX
   have gBY:=aP HW.out.size hBBY
   clear hBBY
   replace HW:=h! (HW.out.trans (hb.1.below HW.out.size xBASE))
   have BX:=h! hXBX
   clear hXBX
   have BY:=h! hXBY
   clear hXBY
   obtain ⟨lBX,cBX,fBX⟩:=BX.out
   obtain ⟨lBY,cBY,fBY⟩:=BY.out
   simp only [bG,Nat.reduceAdd]
   have h8:∃ (g1 c1:Nat), ν 8 = .slice (some ⟨g1,0,none⟩) (p.src.length+1) c1/\eV wg (Foot.one g1) (ν 8) (p.src ++ [(nb:Int)])/\(Sf g1 \/ wr.heap.size <= g1):=hf 8 (by omega)
   have h21:∃ (g1 c1:Nat), ν 21 = .slice (some ⟨g1,0,none⟩) (p.vals.length+1) c1/\eV wg (Foot.one g1) (ν 21) (p.vals ++ [pv])/\(Sv g1 \/ wr.heap.size <= g1) /\ ∀ g8 c8, ν 8 = .slice (some ⟨g8,0,none⟩) (p.src.length+1) c8 -> g1 ≠ g8:=hf 21 (by omega)
   have h24:ORow wg G 83 4 (.slice (some ⟨gp,0,none⟩) ny cpy) ny (cs.set (j * 4+2) (ν 8)):=hf 24 (by omega)
   obtain ⟨g8,c8,e8,o8,q8⟩:=h8
   obtain ⟨g21,c21,e21,o21,q21,n21⟩:=h21
   have hne:=n21 g8 c8 e8
   simp only [e21]
   rw [e8] at o8 h24
   rw [e21] at o21
   obtain ⟨g9,c9,e9, -, -, -, -,hc9,hf9⟩:=h24.addr (by omega)
   cases e9
   have z3:=hc9 (j * 4+3) (.slice (some ⟨gv,0,none⟩) p.vals.length cv) (by rw [bP,if_neg (by omega)];exact HC23.out.2)
   have HOFW:Hid (Off (Four.All XF) wr wg):=h! hb.1
   have HSET:Hid (Off (Foot.one gp) wg (wg.setCell ⟨gp,j * 4+3,none⟩ (.slice (some ⟨g21,0,none⟩) (p.vals.length+1) c21))):=h! (Off.set wg ⟨gp,j * 4+3,none⟩ _)
   have HNG8:Hid (g8 ≠ gp):=h! (fun e=>by
    subst e
    rcases q8 with q8 | q8
    ·exact HFV.out.2.1 _ q8 HGG.out
    omega)
   have HNG21:Hid (g21 ≠ gp):=h! (fun e=>by
    subst e
    rcases q21 with q21 | q21
    ·exact HFV.out.2.2 _ q21 HGG.out
    omega)
   have HGP:Hid (∀ q k,XF q k -> G k \/ Sf k \/ Sv k):=h! (fun q k h=>by
    rcases HX.out.2.2.2 q k h with e | e | e
    ·subst e;exact .inr (.inl ((HX.out.1 k).1 h))
    ·subst e;exact .inr (.inr ((HX.out.2.1 k).1 h))
    subst e;have:=(HX.out.2.2.1 k).1 h;subst this;exact .inl HGG.out)
   have HNEW:Hid (nM (wg.setCell ⟨gp,j * 4+3,none⟩ (.slice (some ⟨g21,0,none⟩) (p.vals.length+1) c21)) (fun k=>Sp k \/ Foot.one g8 k \/ Foot.one g21 k) (.slice (some ⟨gp,0,none⟩) ny cpy) (upTo (fD bn nb true) y.phis (j+1))):=h! (by
    have h9:=HCLO.out (wg.setCell ⟨gp,j * 4+3,none⟩ (.slice (some ⟨g21,0,none⟩) (p.vals.length+1) c21)) _ _ (p.src ++ [(nb:Int)]) (p.vals ++ [pv]) (Foot.one g8) (Foot.one g21)
     ((HOFW.out.mono fun k _ ⟨q,h⟩=>HGP.out q k h).trans (HSET.out.mono fun k _ hk=>by cases hk;exact .inl HGG.out)) (h24.set rfl (by omega) (j * 4+3) _)
     (o8.off HSET.out fun k h1 h2=>by cases h1;exact HNG8.out h2) (o21.off HSET.out fun k h1 h2=>by cases h1;exact HNG21.out h2) (fun k h1 h2=>by cases h1;exact hne h2.symm)
     (fun k hk=>by cases hk;exact q8) (fun k hk=>by cases hk;exact q21)
    rw [<-HNX.out,pQ HM.out,HPV.out]
    exact h9)
   have HSP2:Hid (∀ k,(Sp k \/ Foot.one g8 k \/ Foot.one g21 k) -> T1 k \/ w5.heap.size <= k):=h! (fun k hk=>by
    have h0:=HOF.out.size
    rcases hk with hk | hk | hk
    ·exact HSP.out k hk
    ·cases hk
     rcases q8 with q8 | q8
     ·exact HSP.out _ (HIS.out.2.1 _ q8)
     right;omega
    cases hk
    rcases q21 with q21 | q21
    ·exact HSP.out _ (HIS.out.2.2 _ q21)
    right;omega)
   have HOF2:Hid (Off T1 w5 (wg.setCell ⟨gp,j * 4+3,none⟩ (.slice (some ⟨g21,0,none⟩) (p.vals.length+1) c21))):=h! ((HOF.out.grow HOFW.out (fun k ⟨q,h⟩=>HSP.out k (HXSP.out q k h))).grow HSET.out (fun k hk=>by cases hk;exact HSP.out _ (HIS.out.1 _ HGG.out)))
   clear hf hb e8 e21 o8 o21 h24 q8 q21 n21 hne hc9
   go_wp2
   go_roundw
   case rel=>exact ⟨j+1,_,hlt,by go_num,HOF2.out,HNEW.out,HSP2.out⟩
   simp [intOf];omega
  rw [uI hm]
  have HNEW:Hid (nM wr Sp (.slice (some ⟨gp,0,none⟩) ny cpy) (upTo (fD bn nb st) y.phis (j+1))):=h! (by
   rw [<-HNX.out,rW hm,qU HUP.out];exact HOP.out)
  clear hm
  go_wp2
  go_roundw
  case rel=>exact ⟨j+1,_,hlt,by go_num,HOF.out,HNEW.out,HSP.out⟩
  simp [intOf];omega
 have hjn:j=ny:=by omega
 have HMAP:Hid (nM wr Sp (.slice apy ny cpy) (y.phis.map (fD bn nb st))):=h! (by
  have h9:=HOP.out
  rw [hjn,HNY.out,aC1, <-HNY.out] at h9;exact h9)
 clear hjn
 obtain ⟨bl,hbl⟩ : ∃ bl,bl=(f.blocks.set bn (fR kn (nb:Int) x)).set tn (jE bn (nb:Int) st y):=⟨_,rfl⟩
 have HBL:Hid (gS wr (fun k=>SB k \/ Sp k) (.slice (some ⟨g,0,none⟩) nb cap) bl):=h! (by rw [hbl];exact HCL.out wr Sp _ HOF.out HMAP.out HSP.out)
 have HLEN:Hid (bl.length=nb):=h! (by rw [hbl,bT,HLB.out])
 have HSPLIT:Hid ((eZ f bn kn tn st).blocks=bl ++ [nH (tn:Int)]):=h! (by
  rw [hbl]
  have h9:=tR (f:=f) (k:=kn) HX.out (by rw [<-HNB.out];exact HY.out) st
  rw [<-HNB.out] at h9;exact h9)
 clear hbl
 have HFREE:Hid (∀ k,(SB k \/ Sp k) -> k ∉ [b3,w.heap.size,w.heap.size+1]/\w.heap.size+2 <= k):=h! (fun k hk=>by
  rcases hk with hk | hk
  ·exact ⟨HBK6.out.free k hk,HBK6.out.base k hk⟩
  rcases HSP.out k hk with hk | hk
  ·exact ⟨HBK6.out.free k (HT1.out k hk),HBK6.out.base k (HT1.out k hk)⟩
  exact ⟨by simp;omega,by omega⟩)
 have HBL6:Hid (Holds [b3,w.heap.size,w.heap.size+1] (w.heap.size+2) wr (fun k=>SB k \/ Sp k) (fun W=>gS W (fun k=>SB k \/ Sp k) (.slice (some ⟨g,0,none⟩) nb cap) bl)) :=
  h! ⟨HBL.out,fun _ _ h hk=>h.keep OBlock.nice hk,HBL.out.lt,fun k hk=>(HFREE.out k hk).2,fun k hk=>(HFREE.out k hk).1⟩
 have HBL0:Hid (Holds [] (w.heap.size+2) wr (fun k=>SB k \/ Sp k) (fun W=>gS W (fun k=>SB k \/ Sp k) (.slice (some ⟨g,0,none⟩) nb cap) bl)):=h! (HBL6.out.less (by simp))
 have HQL:Hid (∀ k,SQ k -> k < w5.heap.size):=h! HQ.out.lt
 replace HQ:=h! (HQ.out.off HOF.out (fun k h1 h2=>HQB.out k h1 (HT1.out k h2)))
 have hwr:w5.heap.size <= wr.heap.size:=HOF.out.size
 have HQN:Hid (∀ k,SQ k -> ¬ (SB k \/ Sp k)):=h! (fun k h1 h2=>by
  rcases h2 with h2 | h2
  ·exact HQB.out k h1 h2
  rcases HSP.out k h2 with h2 | h2
  ·exact HQB.out k h1 (HT1.out k h2)
  have:=HQL.out k h1;omega)
 have ht64:In64 (tn:Int):=⟨by omega,by omega⟩
 clear HBL HBK6 HOP HMAP k0
 go_upto_region 25 with (at_builtin;go_loud (refine lO OBlock.nice rfl _ _ 23 75 rfl aB9 rfl rfl HLEN.out ((HBL0.out.alloc _).alloc _) (aC3 _ _ _ _) rfl (wM (t:=(tn:Int)) ht64 _) (fun k h1 h2=>by cases h1;exact absurd (HBL0.out.lt _ h2) (Nat.lt_irrefl _)) (fun k hk=>by cases hk;omega) (by intro b hb;cases hb) (by simp;omega) (by simp [Value.oneCell']) (by omega) (by omega) ?_);intro v2 w7 SN q1 q2 q3 q4;obtain ⟨g2,c2,rfl⟩:=q4;have hB3:=((B3.out.alloc _).alloc _).off q3 (fun h=>(HFREE.out _ h).1 (by simp));obtain ⟨lx,cx,fx⟩:=hB3)
 clear lx cx fx
 have hwn:w.heap.size+2 <= wr.heap.size:=by omega
 have HQN7:Hid (SQ.off SN):=h! (fun k h1 h2=>by
  rcases q2 k h2 with h3 | h3 | h3
  ·exact HQN.out k h1 h3
  ·cases h3;have:=HQL.out _ h1;omega
  have:=HQL.out k h1;simp at h3;omega)
 have HBN:Hid (Holds [b3,w.heap.size,w.heap.size+1] (w.heap.size+2) w7 SN (fun W=>gS W SN (.slice (some ⟨g2,0,none⟩) (nb+1) c2) (bl ++ [nH (tn:Int)]))):=h! ⟨q1.now,q1.keep,q1.lt,q1.base,fun k hk=>by
  rcases q2 k hk with h3 | h3 | h3
  ·exact (HFREE.out k h3).1
  ·cases h3;simp;omega
  simp at h3 ⊢;omega⟩
 clear lB1 cB1 fB1 lB2 cB2 fB2 lB3 cB3 fB3
 replace HW:=h! (((HW.out.alloc HW.out.size _).alloc (by simp;have:=HW.out.size;omega) _).trans (q3.below (by simp;have:=HW.out.size;omega) (fun k _ hk=>by have:=(HFREE.out k hk).2;omega)))
 replace B1:=h! (((B1.out.alloc _).alloc _).off q3 (fun h=>(HFREE.out _ h).1 (by simp)))
 replace B2:=h! (((B2.out.alloc _).alloc _).off q3 (fun h=>(HFREE.out _ h).1 (by simp)))
 replace B3:=h! (((B3.out.alloc _).alloc _).off q3 (fun h=>(HFREE.out _ h).1 (by simp)))
 replace HQ:=h! (((HQ.out.alloc _).alloc _).off q3 (fun k h1 h2=>HQN.out k h1 h2))
 clear q1 q2 q3 HBL6 HBL0 HQN HQL hwr hwn
 obtain ⟨lB1,cB1,fB1⟩:=B1.out
 obtain ⟨lB2,cB2,fB2⟩:=B2.out
 obtain ⟨lB3,cB3,fB3⟩:=B3.out
 clear lB1 cB1 fB1 lB2 cB2 fB2 lB3 cB3 fB3
 have hO_:=(Only.set w7 (b3) 3 (.slice (some ⟨g2,0,none⟩) (nb+1) c2))
 replace B1:=h! (B1.out.only hO_ (by first | assumption | (simp;done) | omega))
 replace B2:=h! (B2.out.only hO_ (by first | assumption | (simp;done) | omega))
 replace HQ:=h! (HQ.out.other (p:=⟨b3,3,none⟩) (.slice (some ⟨g2,0,none⟩) (nb+1) c2) (by simp))
 replace HBN:=h! (HBN.out.other (p:=⟨b3,3,none⟩) (.slice (some ⟨g2,0,none⟩) (nb+1) c2) (by simp))
 replace HW:=h! (hO_.2.2 HW.out (by first | assumption | omega | (have:=HW.out.size;omega) | (simp;done) | (simp;omega)))
 replace B3:=h! (Box.to (A':=#[.slice pa2 np pc2,.int .i64 ar,.int .i64 ce,(.slice (some ⟨g2,0,none⟩) (nb+1) c2)]) (B3.out.set 3 (.slice (some ⟨g2,0,none⟩) (nb+1) c2)) (by first | rfl | simp))
 clear hO_
 generalize (w7.setCell ⟨b3,3,none⟩ (.slice (some ⟨g2,0,none⟩) (nb+1) c2))=w8 at *
 obtain ⟨lB1,cB1,fB1⟩:=B1.out
 obtain ⟨lB2,cB2,fB2⟩:=B2.out
 obtain ⟨lB3,cB3,fB3⟩:=B3.out
 go_wp2
 clear lB1 cB1 fB1 lB2 cB2 fB2 lB3 cB3 fB3
 have hO_:=((((Only.set w8 (w.heap.size+1) 0 (.slice pa2 np pc2)).put 1 (.int .i64 ar)).put 2 (.int .i64 ce)).put 3 (.slice (some ⟨g2,0,none⟩) (nb+1) c2))
 replace B1:=h! (B1.out.only hO_ (by first | assumption | (simp;done) | omega))
 replace B3:=h! (B3.out.only hO_ (by first | assumption | (simp;done) | omega))
 replace HQ:=h! ((((HQ.out.other (p:=⟨w.heap.size+1,0,none⟩) (.slice pa2 np pc2) (by simp)).other (p:=⟨w.heap.size+1,1,none⟩) (.int .i64 ar) (by simp)).other (p:=⟨w.heap.size+1,2,none⟩) (.int .i64 ce) (by simp)).other (p:=⟨w.heap.size+1,3,none⟩) (.slice (some ⟨g2,0,none⟩) (nb+1) c2) (by simp))
 replace HBN:=h! ((((HBN.out.other (p:=⟨w.heap.size+1,0,none⟩) (.slice pa2 np pc2) (by simp)).other (p:=⟨w.heap.size+1,1,none⟩) (.int .i64 ar) (by simp)).other (p:=⟨w.heap.size+1,2,none⟩) (.int .i64 ce) (by simp)).other (p:=⟨w.heap.size+1,3,none⟩) (.slice (some ⟨g2,0,none⟩) (nb+1) c2) (by simp))
 replace HW:=h! (hO_.2.2 HW.out (by first | assumption | omega | (have:=HW.out.size;omega) | (simp;done) | (simp;omega)))
 replace B2:=h! (Box.to (A':=#[(.slice pa2 np pc2),(.int .i64 ar),(.int .i64 ce),(.slice (some ⟨g2,0,none⟩) (nb+1) c2)]) ((((B2.out.set 0 (.slice pa2 np pc2)).set 1 (.int .i64 ar)).set 2 (.int .i64 ce)).set 3 (.slice (some ⟨g2,0,none⟩) (nb+1) c2)) (by first | rfl | simp))
 clear hO_
 generalize ((((w8.setCell ⟨w.heap.size+1,0,none⟩ (.slice pa2 np pc2)).setCell ⟨w.heap.size+1,1,none⟩ (.int .i64 ar)).setCell ⟨w.heap.size+1,2,none⟩ (.int .i64 ce)).setCell ⟨w.heap.size+1,3,none⟩ (.slice (some ⟨g2,0,none⟩) (nb+1) c2))=w9 at *
 obtain ⟨lB1,cB1,fB1⟩:=B1.out
 obtain ⟨lB2,cB2,fB2⟩:=B2.out
 obtain ⟨lB3,cB3,fB3⟩:=B3.out
 refine bodyPost_ret (v:=.tuple #[.agg #[.slice pa2 np pc2,.int .i64 ar,.int .i64 ce,.slice (some ⟨g2,0,none⟩) (nb+1) c2],.int .i64 0]) (by simp [results,Tryz.results42,go_sem, *]) rfl ⟨_,fun q=>SQ q \/ SN q,by rw [HOK.out],by rw [HOK.out];exact ⟨⟨_,_,SQ,SN,by rw [HAC.out.1,HAC.out.2];rfl,HQ.out.now,by rw [HSPLIT.out];exact HBN.out.now,HQN7.out,fun k h=>.inl h,fun k h=>.inr h⟩,fun k hk=>hk.elim (HQ.out.lt k) (HBN.out.lt k),HA64.out.1,HA64.out.2⟩,fun k hk => ?_,HW.out⟩
 rcases hk with hk | hk
 ·have:=HQ.out.base k hk;omega
 have:=HBN.out.base k hk;omega
end
section
open Go.RowKit
theorem gG.later {W W' : World} {v:Value} {f:FuncD} (h:gG W v f) (hb:Below W.heap.size W W'):gG W' v f:=h.below hb
theorem gG.alloc {W:World} {v:Value} {f:FuncD} (h:gG W v f) (o:Obj):gG (W.alloc o) v f:=h.below ((Below.refl _ _).alloc (aB _) o)
theorem zW {xs:List Int} (h:∀ q ∈ xs,0 <= q) (k n t:Nat):(xs.set k (n:Int)).contains (t:Int)=((xs.map Int.toNat).set k n).contains t:=by
 have e:(xs.map Int.toNat).set k n=(xs.set k (n:Int)).map Int.toNat:=by rw [List.map_set];simp
 rw [e,bZ,cP,cP]
 constructor
 ·intro hm
  exact aZ.2 ⟨_,hm,by simp⟩
 intro hm
 obtain ⟨q,hq,hqt⟩:=aZ.1 hm
 have h0:0 <= q:=by
  rcases dL hq with h1 | h1
  ·exact h q h1
  omega
 have:q=(t:Int):=by omega
 rw [<-this];exact hq
theorem wI {f:FuncD} {b:Int} (h:fM f b 0):fM f 0 0:=by
 have h0:=h
 unfold fM at h
 rcases h with ⟨c, -, -, -, -,h⟩ | ⟨h1,⟨c,x, -, -, -, -,h⟩ | ⟨h2,⟨i,u, -, -, -, -,h⟩ | ⟨h3,rfl, -⟩⟩⟩
 ·cases h
 ·cases h
 ·cases h
 exact h0
theorem tO:iS Tryz.prog 42 (pF aF4 1):=jY Tryz.underlying42 (by kernel_rfl) (by kernel_rfl) (by omega) (Nat.le_of_ble_eq_true rfl:8 <= 24) jM
theorem aCY {W:World} {v:Value} {xs:List (List Int)} (h:eW aF4 1 W v xs):kM W v xs:=by
 obtain ⟨cs,h1,h2⟩:=h
 have hl:=h1.len
 refine ⟨cs,by omega,h1,fun j hj => ?_⟩
 obtain ⟨u,hu,hI⟩:=h2 j _ (aC hj)
 have hc0:cs[j]? = some u:=by
  have h9:=congrArg (fun l:List Value=>l[0]?) hu
  simp only [bD,bM,eL,cR] at h9
  simpa using h9
 have e1:cs.getD j undef=u:=by rw [aH,hc0];rfl
 have e2:xs.getD j []=xs[j]:=by rw [aH,aC hj];rfl
 rw [e1,e2]
 exact hI
def aG1 (W:World) (cs:List Value) (i:InputD):Prop := ∃ a b,cs=[a,b]/\Ints W a i.args/\kM W b i.arrays
theorem tP:iS Tryz.prog 44 aG1 :=
 (rB Tryz.underlying44 (s0:=1) (s1:=1) (by kernel_rfl) rfl rfl (by kernel_rfl) (by kernel_rfl) jM tO).mono
  fun W cs y ⟨d0,d1,e,_,⟨v,e0,h0⟩,u,e1,h1⟩=>⟨⟨y.1,y.2⟩,v,u,by rw [e,e0,e1];rfl,h0,aCY h1⟩
set_option maxRecDepth 100000 in
theorem zX {H:Type} {enc:TypeId × Value -> H} {W:World} {v:Value} {d:DataW H} {ps:List MemPlace} {base:Nat} (hval:Value.okWide Tryz.prog W .any base 44 v)
  (h:DataW.Trod enc Tryz.prog W 0 (fun _=>true) true 44 v d ps) (hz:∀ n ∈ d.weights Tryz.prog 44,n <= reachBytes):∃ i:InputD,nZ W v i:=by
 obtain ⟨cs,i,hv,hf⟩:=lM Tryz.underlying44 tP hval h hz
 obtain ⟨a,b,e,r⟩:=hf
 refine ⟨i,a,b, ?_,r⟩
 rw [hv, <-Array.toArray_toList (xs:=cs),e]
def SErr (f:FuncD) (k:Int):Prop:=(d7 f ≠ 0/\k=d7 f) \/ (d7 f=0 /\ ∃ b,fM f b k)
theorem SErr.one {f:FuncD} {k k' : Int} (h:SErr f k) (h' : SErr f k'):k=k':=by
 rcases h with ⟨h1,rfl⟩ | ⟨h1,b,h2⟩
 ·rcases h' with ⟨_,rfl⟩ | ⟨h3,_⟩
  ·rfl
  exact absurd h3 h1
 rcases h' with ⟨h3,_⟩ | ⟨_,b',h4⟩
 ·exact absurd h1 h3
 exact (tC h2 h4).2
theorem SErr.of_check {f:FuncD} {b k:Int} (h1:d7 f ≠ 0 -> b=0/\k=d7 f) (h2:d7 f=0 -> fM f b k):SErr f k:=by
 by_cases h:d7 f=0
 ·exact .inr ⟨h,b,h2 h⟩
 exact .inl ⟨h,(h1 h).2⟩
theorem SErr.zero {f:FuncD} (h:SErr f 0):d7 f=0/\fM f 0 0:=by
 rcases h with ⟨h1,h2⟩ | ⟨h1,b,h2⟩
 ·exact absurd h2.symm h1
 exact ⟨h1,wI h2⟩
def IsR (f:FuncD) (w:World) (e:Ending) (w' : World):Prop := ∃ k:Bool,e = .returned (.bool k)/\(k=true ↔ d7 f=0/\fM f 0 0)/\Below w.heap.size w w'
theorem aII {w:World} {v:Value} {f:FuncD} (hv:gG w v f):Calls Tryz.prog 23 #[v] w (IsR f w):=by
 have HV:=h! hv
 obtain ⟨ap,cp,ab,cb,rfl, -, -, -, -⟩:=hv.form
 clear hv
 go_enter Tryz.func23,Tryz.ntmps23
 go_upto_region 1 with (fail)
 have hA_:=(Below.refl w.heap.size w).alloc (aB _) (.cells #[.slice ap f.params.length cp,.int .i64 f.arrays,.int .i64 f.cells,.slice ab f.blocks.length cb] 25)
 have HW:=h! hA_
 clear hA_
 have B1:=h! (Box.new w #[.slice ap f.params.length cp,.int .i64 f.arrays,.int .i64 f.cells,.slice ab f.blocks.length cb] 25)
 generalize w.alloc (.cells #[.slice ap f.params.length cp,.int .i64 f.arrays,.int .i64 f.cells,.slice ab f.blocks.length cb] 25)=wv at *
 obtain ⟨lB1,cB1,fB1⟩:=B1.out
 go_wp2_with fail
 refine (aBX (HV.out.below HW.out)).mono ?_
 rintro e w2 ⟨b,g,rfl,h1,h2,hb⟩
 have HS:=h! (SErr.of_check h1 h2)
 clear h1 h2
 clear lB1 cB1 fB1
 replace B1:=h! (B1.out.later hb)
 replace HW:=h! (HW.out.trans (hb.mono HW.out.size))
 clear hb
 obtain ⟨lB1,cB1,fB1⟩:=B1.out
 by_cases hg:g=0
 ·have HG:Hid (d7 f=0/\fM f 0 0):=h! (by have h9:=HS.out;rw [hg] at h9;exact h9.zero)
  have hq:(g == 0)=true:=by simpa using hg
  clear hg
  go_wp2
  go_ret
  exact ⟨true,rfl,⟨fun _=>HG.out,fun _=>rfl⟩,HW.out⟩
 have HG:Hid (¬ (d7 f=0/\fM f 0 0)):=h! (fun h=>hg (HS.out.one (.inr ⟨h.1,0,h.2⟩)))
 have hq:(g == 0)=false:=by simpa using hg
 clear hg
 go_wp2
 go_ret
 exact ⟨false,rfl,⟨fun h=>absurd h (by simp),fun h=>absurd h HG.out⟩,HW.out⟩
def zY (u v:TraceD):Prop:=u.how=3 \/ (v.how=u.how/\v.value=u.value/\v.trap=u.trap/\v.out=u.out/\v.arrays=u.arrays/\v.checks=u.checks/\0 <= u.steps/\u.steps <= v.steps/\v.steps <= 2 * u.steps)
theorem rT {f:FuncD} (hc:d7 f=0) (hF:fM f 0 0) (b k:Int):(gY f b k).2=9 \/ (gY f b k).2=2 \/ ((gY f b k).2=0 /\ ∀ (i:InputD) (u v:TraceD),RunP f i 1000 u -> RunP (gY f b k).1 i 2000 v -> zY u v):=by
 have hf:=(eX hc).1
 have hz:=(jC hf).size
 have hl:=(jC hf).len
 by_cases h1:0 <= b/\b < f.blocks.length/\0 <= k/\k < (f.blocks.getD b.toNat default).term.to.length
 ·obtain ⟨bn,rfl⟩ : ∃ bn:Nat,b=bn:=⟨b.toNat,by omega⟩
  obtain ⟨kn,rfl⟩ : ∃ kn:Nat,k=kn:=⟨k.toNat,by omega⟩
  obtain ⟨x,hx⟩ : ∃ x,f.blocks[bn]? = some x:=⟨_,aC (by omega)⟩
  have hk:kn < x.term.to.length:=by
   have h2:=h1.2.2.2
   rw [cH,getD_some hx] at h2
   omega
  obtain ⟨q,hq⟩ : ∃ q,x.term.to[kn]? = some q:=⟨_,aC hk⟩
  have hto:=kX hf hx
  have hq1:=hto q (aG hq)
  obtain ⟨t,rfl⟩ : ∃ t:Nat,q=t:=⟨q.toNat,by omega⟩
  by_cases h2:f.blocks.length=512 \/ jF f=4096
  ·rw [mF hc hx hk h2];exact .inr (.inl rfl)
  rw [rV hc hx hq (fun e=>h2 (.inl e)) (fun e=>h2 (.inr e))]
  have hs:(x.term.to.set kn (f.blocks.length:Int)).contains (t:Int)=((toB f bn).set kn f.blocks.length).contains t:=by
   rw [iR hx]
   exact zW (fun q hq=>by have:=hto q hq;omega) kn f.blocks.length t
  exact .inr (.inr ⟨rfl,fun i u v hu hv=>zD hc hF hx hq (by omega) hs hu hv (uS hc hx hq (by omega) (by omega) _) (r9 hc hF hx hq hs)⟩)
 left
 unfold gY
 rw [if_neg (by simp [hc]),if_pos h1]
set_option maxRecDepth 100000 in
theorem tQ {w:World} {v u:Value} (f:FuncD) (i:InputD) {a:Int} (kb:Bool) (hv:gG w v f) (hi:nZ w u i) (ha:0 <= a/\a <= 65535) :
  Calls Tryz.prog 11 #[v,u,.int .u16 a,.bool kb] w fun e w'=>e = .returned (.bool true)/\Below w.heap.size w w':=by
 have HV:=h! hv
 have HI:=h! hi
 obtain ⟨ap,cp,ab,cb,rfl, -, -, -, -⟩:=hv.form
 obtain ⟨ua,ub,rfl,hua,hub⟩:=hi
 obtain ⟨aa,ca,rfl⟩:=hua.form
 obtain ⟨_,b5,c5,_,_,rfl, -, -, -, -, -, -⟩:=hub.parts
 obtain ⟨an,rfl⟩ : ∃ an:Nat,a=(an:Int):=⟨a.toNat,by omega⟩
 obtain ⟨nb,hnb⟩ : ∃ nb,nb=f.blocks.length:=⟨_,rfl⟩
 rw [<-hnb] at HV ⊢
 have HNB:=h! hnb
 clear hua hub hv hnb
 go_enter Tryz.func11,Tryz.ntmps11
 go_upto_region 1 with (fail)
 have hA_:=(Below.refl w.heap.size w).alloc (aB _) (.cells #[.slice ap f.params.length cp,.int .i64 f.arrays,.int .i64 f.cells,.slice ab nb cb] 25)
 have HW:=h! hA_
 clear hA_
 have B4:=h! (Box.new w #[.slice ap f.params.length cp,.int .i64 f.arrays,.int .i64 f.cells,.slice ab nb cb] 25)
 have hz0_:(w.alloc (.cells #[.slice ap f.params.length cp,.int .i64 f.arrays,.int .i64 f.cells,.slice ab nb cb] 25)).heap.size=w.heap.size+1:=World.size_alloc _ _
 generalize w.alloc (.cells #[.slice ap f.params.length cp,.int .i64 f.arrays,.int .i64 f.cells,.slice ab nb cb] 25)=wv0 at *
 have hA_:=(Below.refl wv0.heap.size wv0).alloc (aB _) (.cells #[.slice aa i.args.length ca,.slice b5 i.arrays.length c5] 44)
 replace B4:=h! (B4.out.later hA_)
 replace HW:=h! (HW.out.trans (hA_.mono HW.out.size))
 clear hA_
 have B5:=h! (Box.new wv0 #[.slice aa i.args.length ca,.slice b5 i.arrays.length c5] 44)
 rw [hz0_] at B5
 clear hz0_
 generalize wv0.alloc (.cells #[.slice aa i.args.length ca,.slice b5 i.arrays.length c5] 44)=wv at *
 obtain ⟨lB4,cB4,fB4⟩:=B4.out
 obtain ⟨lB5,cB5,fB5⟩:=B5.out
 go_wp2_with fail
 refine aES.mono ?_
 rintro e w2 ⟨rfl,hb⟩
 clear lB4 cB4 fB4 lB5 cB5 fB5
 replace B4:=h! (B4.out.later hb)
 replace B5:=h! (B5.out.later hb)
 replace HW:=h! (HW.out.trans (hb.mono HW.out.size))
 clear hb
 obtain ⟨lB4,cB4,fB4⟩:=B4.out
 obtain ⟨lB5,cB5,fB5⟩:=B5.out
 go_wp2_with fail
 refine (aII (HV.out.below HW.out)).mono ?_
 rintro e w3 ⟨k,rfl,hk,hb⟩
 have HK:=h! hk
 clear hk
 clear lB4 cB4 fB4 lB5 cB5 fB5
 replace B4:=h! (B4.out.later hb)
 replace B5:=h! (B5.out.later hb)
 replace HW:=h! (HW.out.trans (hb.mono HW.out.size))
 clear hb
 obtain ⟨lB4,cB4,fB4⟩:=B4.out
 obtain ⟨lB5,cB5,fB5⟩:=B5.out
 cases k
 ·clear HK
  go_wp2_with fail
  refine aES.mono ?_
  rintro e w4 ⟨rfl,hb⟩
  clear lB4 cB4 fB4 lB5 cB5 fB5
  replace B4:=h! (B4.out.later hb)
  replace B5:=h! (B5.out.later hb)
  replace HW:=h! (HW.out.trans (hb.mono HW.out.size))
  clear hb
  obtain ⟨lB4,cB4,fB4⟩:=B4.out
  obtain ⟨lB5,cB5,fB5⟩:=B5.out
  go_wp2
  go_ret
  exact ⟨rfl,HW.out⟩
 ·have HC:Hid (d7 f=0):=h! (HK.out.1 rfl).1
  have HF:Hid (fM f 0 0):=h! (HK.out.1 rfl).2
  have hn1:1 <= nb:=by have:=(gU (eX HC.out).1).1;rw [<-HNB.out] at this;exact this
  have hn5:nb <= 512:=by have:=(gU (eX HC.out).1).2;rw [<-HNB.out] at this;exact this
  clear HK
  obtain ⟨m,hm⟩ : ∃ m,m=an % nb:=⟨_,rfl⟩
  have hml:m < nb:=by rw [hm];exact Nat.mod_lt _ hn1
  have rm:Int.tmod (an:Int) (nb:Int)=(m:Int):=by rw [hm];rfl
  clear hm
  cases kb
  all_goals
   go_wp2_with fail
   refine (wN (b:=(m:Int)) (HV.out.below HW.out) ⟨by omega,by omega⟩ ⟨by decide,by decide⟩).mono ?_
   rintro e w4 ⟨va,S,rfl,hO, -,hb⟩
   generalize hfa:gY f (m:Int) _=fa at hO ⊢
   have hcase:fa.2=9 \/ fa.2=2 \/ (fa.2=0 /\ ∀ (i:InputD) (u v:TraceD),RunP f i 1000 u -> RunP fa.1 i 2000 v -> zY u v):=by rw [<-hfa];exact rT HC.out HF.out (m:Int) _
   have HA:=h! hO.reads
   obtain ⟨ap2,cp2,ab2,cb2,rfl, -, -, -, -⟩:=hO.reads.form
   obtain ⟨ea,hea⟩ : ∃ ea,ea=fa.2:=⟨_,rfl⟩
   rw [<-hea] at hcase ⊢
   have HCASE:=h! hcase
   clear hO hfa hcase hea rm
   clear lB4 cB4 fB4 lB5 cB5 fB5
   replace B4:=h! (B4.out.later hb)
   replace B5:=h! (B5.out.later hb)
   replace HW:=h! (HW.out.trans (hb.mono HW.out.size))
   clear hb
   obtain ⟨lB4,cB4,fB4⟩:=B4.out
   obtain ⟨lB5,cB5,fB5⟩:=B5.out
   go_upto_region 8 with (fail)
   have nB2B4:w4.heap.size ≠ w.heap.size:=fun e=>by have:=lB4;omega
   have nB4B2:w.heap.size ≠ w4.heap.size:=fun e=>nB2B4 e.symm
   have nB2B5:w4.heap.size ≠ w.heap.size+1:=fun e=>by have:=lB5;omega
   have nB5B2:w.heap.size+1 ≠ w4.heap.size:=fun e=>nB2B5 e.symm
   clear lB4 cB4 fB4 lB5 cB5 fB5
   have hA_:=(Below.refl w4.heap.size w4).alloc (aB _) (.cells #[.slice ap2 fa.1.params.length cp2,.int .i64 fa.1.arrays,.int .i64 fa.1.cells,.slice ab2 fa.1.blocks.length cb2] 25)
   replace B4:=h! (B4.out.later hA_)
   replace B5:=h! (B5.out.later hA_)
   replace HA:=h! (HA.out.later hA_)
   replace HW:=h! (HW.out.trans (hA_.mono HW.out.size))
   clear hA_
   have B2:=h! (Box.new w4 #[.slice ap2 fa.1.params.length cp2,.int .i64 fa.1.arrays,.int .i64 fa.1.cells,.slice ab2 fa.1.blocks.length cb2] 25)
   generalize w4.alloc (.cells #[.slice ap2 fa.1.params.length cp2,.int .i64 fa.1.arrays,.int .i64 fa.1.cells,.slice ab2 fa.1.blocks.length cb2] 25)=w5 at *
   obtain ⟨lB4,cB4,fB4⟩:=B4.out
   obtain ⟨lB5,cB5,fB5⟩:=B5.out
   obtain ⟨lB2,cB2,fB2⟩:=B2.out
   rcases HCASE.out with h9 | h9 | ⟨h9,hlaw⟩
   ·subst h9
    go_wp2
    go_ret
    exact ⟨rfl,HW.out⟩
   ·subst h9
    go_wp2
    go_ret
    exact ⟨rfl,HW.out⟩
   subst h9
   have HLAW:=h! hlaw
   clear hlaw HCASE
   go_upto_region 10 with (fail)
   refine Seven.wp_region_grow 8 (fun _=>none) (fun ν kz=>match kz with | 2=>.holds (fun u φ w'=>RanO f i 1000 u φ w') | 5=>.holds (fun u φ w'=>RanO fa.1 i 2000 u φ w') | 6=>.holds (Seven.MadeS (fun b=>.pointer (some ⟨b,0,none⟩)) #[.int .i64 0,.int .i64 0,.int .i64 0,.slice none 0 0,.slice none 0 0,.int .i64 0,.int .i64 0,.slice none 0 0]) | 7=>.holds (Seven.MadeS (fun b=>.pointer (some ⟨b,0,none⟩)) #[.int .i64 0,.int .i64 0,.int .i64 0,.slice none 0 0,.slice none 0 0,.int .i64 0,.int .i64 0,.slice none 0 0]) | _=>.plain) (by kernel_rfl) (by kernel_rfl) ?_ ?_ ?_ (fun ν => ?_)
   ·(intro ν k;(try dsimp only);split <;> first | exact True.intro | (intro u φ w1 w2 D hu ho hoff hDb hlt hn;first | exact Seven.MadeS.off hu ho hoff | (exact hu.off ho hoff)))
   ·(intro ν ν' k h;first | rfl | ((try dsimp only);split <;> first | rfl))
   ·(intro j k h;cases h)
   simp only [aQ,aV,aR,aY]
   iterate 2 (refine Seven.Grow.val (v := ?_) rfl rfl (fun wg hbg hdg => ?_) ?_;rotate_left;(focus ((obtain ⟨lg0,cg0,fg0⟩:=B4.out.later hbg);(obtain ⟨lg1,cg1,fg1⟩:=B5.out.later hbg);(obtain ⟨lg2,cg2,fg2⟩:=B2.out.later hbg);clear hbg hdg;first | (go_simp;done) | (go_simp;with_reducible rfl)));simp only [Act.put,aA,aE,aF])
   refine Seven.Grow.call (f := ?_) (args := ?_) rfl (by intro h;cases h) (fun wg => ?_) (fun wg hbg hdg => ?_) ?_
   rotate_left 2
   focus (first | (go_simp;done) | (go_simp;refine And.intro ?_ ?_ <;> with_reducible rfl) | (go_simp;with_reducible rfl))
   focus (exact (runO (HV.out.below (HW.out.trans (hbg.mono HW.out.size))) (HI.out.below (HW.out.trans (hbg.mono HW.out.size))) ⟨by omega,by omega⟩).mono (fun e w2 ⟨v,t,S,he,hp,ht,hs,hb⟩=>⟨v,S,he,⟨t,hp,ht⟩,hb,fun k hk=>⟨hs k hk,ht.lt k hk⟩⟩))
   simp only [Act.put,Seven.Known.val,aA,aE,aF]
   iterate 2 (refine Seven.Grow.val (v := ?_) rfl rfl (fun wg hbg hdg => ?_) ?_;rotate_left;(focus ((obtain ⟨lg0,cg0,fg0⟩:=B4.out.later hbg);(obtain ⟨lg1,cg1,fg1⟩:=B5.out.later hbg);(obtain ⟨lg2,cg2,fg2⟩:=B2.out.later hbg);clear hbg hdg;first | (go_simp;done) | (go_simp;with_reducible rfl)));simp only [Act.put,aA,aE,aF])
   refine Seven.Grow.call (f := ?_) (args := ?_) rfl (by intro h;cases h) (fun wg => ?_) (fun wg hbg hdg => ?_) ?_
   rotate_left 2
   focus (first | (go_simp;done) | (go_simp;refine And.intro ?_ ?_ <;> with_reducible rfl) | (go_simp;with_reducible rfl))
   focus (exact (runO (HA.out.below hbg) (HI.out.below (HW.out.trans (hbg.mono HW.out.size))) ⟨by omega,by omega⟩).mono (fun e w2 ⟨v,t,S,he,hp,ht,hs,hb⟩=>⟨v,S,he,⟨t,hp,ht⟩,hb,fun k hk=>⟨hs k hk,ht.lt k hk⟩⟩))
   simp only [Act.put,Seven.Known.val,aA,aE,aF]
   iterate 2 (refine Seven.Grow.made (T := ?_) rfl rfl (fun wg hbg hdg => ?_) ?_;rotate_left;(focus ((obtain ⟨lg0,cg0,fg0⟩:=B4.out.later hbg);(obtain ⟨lg1,cg1,fg1⟩:=B5.out.later hbg);(obtain ⟨lg2,cg2,fg2⟩:=B2.out.later hbg);clear hbg hdg;first | (go_simp;done) | (go_simp;with_reducible rfl)));simp only [Act.put,Seven.Known.val,aA,aE,aF])
   intro wg hb hf
   obtain ⟨bBA,hνBA,hφBA,hXBA⟩:=hf.fact 6 ⟨by omega,rfl⟩
   have hBBA:w5.heap.size <= bBA:=hf.base 6 bBA ⟨by omega,rfl⟩ ((hφBA bBA).2 rfl)
   have nBAB4:bBA ≠ w.heap.size:=fun e=>by have:=lB4;omega
   have nB4BA:w.heap.size ≠ bBA:=fun e=>nBAB4 e.symm
   have nBAB5:bBA ≠ w.heap.size+1:=fun e=>by have:=lB5;omega
   have nB5BA:w.heap.size+1 ≠ bBA:=fun e=>nBAB5 e.symm
   have nBAB2:bBA ≠ w4.heap.size:=fun e=>by have:=lB2;omega
   have nB2BA:w4.heap.size ≠ bBA:=fun e=>nBAB2 e.symm
   obtain ⟨bBB,hνBB,hφBB,hXBB⟩:=hf.fact 7 ⟨by omega,rfl⟩
   have hBBB:w5.heap.size <= bBB:=hf.base 7 bBB ⟨by omega,rfl⟩ ((hφBB bBB).2 rfl)
   have nBBB4:bBB ≠ w.heap.size:=fun e=>by have:=lB4;omega
   have nB4BB:w.heap.size ≠ bBB:=fun e=>nBBB4 e.symm
   have nBBB5:bBB ≠ w.heap.size+1:=fun e=>by have:=lB5;omega
   have nB5BB:w.heap.size+1 ≠ bBB:=fun e=>nBBB5 e.symm
   have nBBB2:bBB ≠ w4.heap.size:=fun e=>by have:=lB2;omega
   have nB2BB:w4.heap.size ≠ bBB:=fun e=>nBBB2 e.symm
   have nBABB:bBA ≠ bBB:=fun e=>hf.apart 6 7 ⟨by omega,rfl⟩ ⟨by omega,rfl⟩ (by omega) bBA ((hφBA bBA).2 rfl) ((hφBB bBA).2 e)
   have nBBBA:bBB ≠ bBA:=fun e=>hf.apart 7 6 ⟨by omega,rfl⟩ ⟨by omega,rfl⟩ (by omega) bBB ((hφBB bBB).2 rfl) ((hφBA bBB).2 e)
   simp only [hνBA,hνBB]
   clear hνBA hνBB
   have gBA:=aP HW.out.size hBBA
   clear hBBA
   have gBB:=aP HW.out.size hBBB
   clear hBBB
   clear lB4 cB4 fB4 lB5 cB5 fB5 lB2 cB2 fB2
   have hbv:=hb
   replace B4:=h! (B4.out.later hb)
   replace B5:=h! (B5.out.later hb)
   replace B2:=h! (B2.out.later hb)
   replace HA:=h! (HA.out.later hb)
   replace HW:=h! (HW.out.trans (hb.mono HW.out.size))
   clear hb
   have BA:=h! hXBA
   clear hXBA
   have BB:=h! hXBB
   clear hXBB
   obtain ⟨lB4,cB4,fB4⟩:=B4.out
   obtain ⟨lB5,cB5,fB5⟩:=B5.out
   obtain ⟨lB2,cB2,fB2⟩:=B2.out
   obtain ⟨lBA,cBA,fBA⟩:=BA.out
   obtain ⟨lBB,cBB,fBB⟩:=BB.out
   simp only [bG,Nat.reduceAdd]
   have h2:RanO f i 1000 (ν 2).1 (ν 2).2 wg:=hf.fact 2 ⟨by omega,rfl⟩
   have h5:RanO fa.1 i 2000 (ν 5).1 (ν 5).2 wg:=hf.fact 5 ⟨by omega,rfl⟩
   have n2A:¬ (ν 2).2 bBA:=fun h=>hf.apart 2 6 ⟨by omega,rfl⟩ ⟨by omega,rfl⟩ (by omega) bBA h ((hφBA _).2 rfl)
   have n2B:¬ (ν 2).2 bBB:=fun h=>hf.apart 2 7 ⟨by omega,rfl⟩ ⟨by omega,rfl⟩ (by omega) bBB h ((hφBB _).2 rfl)
   have n5A:¬ (ν 5).2 bBA:=fun h=>hf.apart 5 6 ⟨by omega,rfl⟩ ⟨by omega,rfl⟩ (by omega) bBA h ((hφBA _).2 rfl)
   have n5B:¬ (ν 5).2 bBB:=fun h=>hf.apart 5 7 ⟨by omega,rfl⟩ ⟨by omega,rfl⟩ (by omega) bBB h ((hφBB _).2 rfl)
   obtain ⟨s,hp,hs⟩:=h2
   obtain ⟨t,hq,ht⟩:=h5
   obtain ⟨a1,a2,a3,c1,c2,c3,e2⟩:=hs.forms
   obtain ⟨d1,d2,d3,g1,g2,g3,e5⟩:=ht.forms
   have HSQ:=h! (HLAW.out i s t hp hq)
   have hst:s.steps <= 1000:=by
    rcases aEB (fuel:=1000) ⟨by omega,by omega⟩ hp with ⟨rfl, -⟩ | ⟨-, -, -, -,h, -⟩
    ·decide
    exact h
   rw [e2] at hs
   rw [e5] at ht
   have HS:=h! hs
   have HT:=h! ht
   have HOZ:Hid (OffF (fun k=>k=bBA \/ k=bBB) wg wg):=h! (Off.refl _ _)
   have HN2:Hid (∀ k,(ν 2).2 k -> ¬ (k=bBA \/ k=bBB)):=h! (fun k hk h=>by rcases h with rfl | rfl;exact n2A hk;exact n2B hk)
   have HN5:Hid (∀ k,(ν 5).2 k -> ¬ (k=bBA \/ k=bBB)):=h! (fun k hk h=>by rcases h with rfl | rfl;exact n5A hk;exact n5B hk)
   simp only [e2,e5]
   clear hf hp hq hs ht e2 e5 n2A n2B n5A n5B hφBA hφBB HLAW
   go_upto_region 11 with (fail)
   clear lB4 cB4 fB4 lB5 cB5 fB5 lB2 cB2 fB2 lBA cBA fBA lBB cBB fBB
   have hO_:=((((((((Only.set wg (bBA) 0 (.int .i64 s.how)).put 1 (.int .i64 s.value)).put 2 (.int .i64 s.trap)).put 3 (.slice a1 s.out.length c1)).put 4 (.slice a2 s.arrays.length c2)).put 5 (.int .i64 s.steps)).put 6 (.int .i64 s.checks)).put 7 (.slice a3 s.visits.length c3))
   replace B4:=h! (B4.out.only hO_ (by first | assumption | (simp;done) | omega))
   replace B5:=h! (B5.out.only hO_ (by first | assumption | (simp;done) | omega))
   replace B2:=h! (B2.out.only hO_ (by first | assumption | (simp;done) | omega))
   replace BB:=h! (BB.out.only hO_ (by first | assumption | (simp;done) | omega))
   replace HOZ:=h! ((((((((HOZ.out.other (p:=⟨bBA,0,none⟩) (.int .i64 s.how) (by simp)).other (p:=⟨bBA,1,none⟩) (.int .i64 s.value) (by simp)).other (p:=⟨bBA,2,none⟩) (.int .i64 s.trap) (by simp)).other (p:=⟨bBA,3,none⟩) (.slice a1 s.out.length c1) (by simp)).other (p:=⟨bBA,4,none⟩) (.slice a2 s.arrays.length c2) (by simp)).other (p:=⟨bBA,5,none⟩) (.int .i64 s.steps) (by simp)).other (p:=⟨bBA,6,none⟩) (.int .i64 s.checks) (by simp)).other (p:=⟨bBA,7,none⟩) (.slice a3 s.visits.length c3) (by simp))
   replace HW:=h! (hO_.2.2 HW.out (by first | assumption | omega | (have:=HW.out.size;omega) | (simp;done) | (simp;omega)))
   replace BA:=h! (Box.to (A':=#[(.int .i64 s.how),(.int .i64 s.value),(.int .i64 s.trap),(.slice a1 s.out.length c1),(.slice a2 s.arrays.length c2),(.int .i64 s.steps),(.int .i64 s.checks),(.slice a3 s.visits.length c3)]) ((((((((BA.out.set 0 (.int .i64 s.how)).set 1 (.int .i64 s.value)).set 2 (.int .i64 s.trap)).set 3 (.slice a1 s.out.length c1)).set 4 (.slice a2 s.arrays.length c2)).set 5 (.int .i64 s.steps)).set 6 (.int .i64 s.checks)).set 7 (.slice a3 s.visits.length c3)) (by first | rfl | simp))
   have hz0_:((((((((wg.setCell ⟨bBA,0,none⟩ (.int .i64 s.how)).setCell ⟨bBA,1,none⟩ (.int .i64 s.value)).setCell ⟨bBA,2,none⟩ (.int .i64 s.trap)).setCell ⟨bBA,3,none⟩ (.slice a1 s.out.length c1)).setCell ⟨bBA,4,none⟩ (.slice a2 s.arrays.length c2)).setCell ⟨bBA,5,none⟩ (.int .i64 s.steps)).setCell ⟨bBA,6,none⟩ (.int .i64 s.checks)).setCell ⟨bBA,7,none⟩ (.slice a3 s.visits.length c3)).heap.size=wg.heap.size:=hO_.1
   clear hO_
   generalize ((((((((wg.setCell ⟨bBA,0,none⟩ (.int .i64 s.how)).setCell ⟨bBA,1,none⟩ (.int .i64 s.value)).setCell ⟨bBA,2,none⟩ (.int .i64 s.trap)).setCell ⟨bBA,3,none⟩ (.slice a1 s.out.length c1)).setCell ⟨bBA,4,none⟩ (.slice a2 s.arrays.length c2)).setCell ⟨bBA,5,none⟩ (.int .i64 s.steps)).setCell ⟨bBA,6,none⟩ (.int .i64 s.checks)).setCell ⟨bBA,7,none⟩ (.slice a3 s.visits.length c3))=w6x0 at *
   have hO_:=((((((((Only.set w6x0 (bBB) 0 (.int .i64 t.how)).put 1 (.int .i64 t.value)).put 2 (.int .i64 t.trap)).put 3 (.slice d1 t.out.length g1)).put 4 (.slice d2 t.arrays.length g2)).put 5 (.int .i64 t.steps)).put 6 (.int .i64 t.checks)).put 7 (.slice d3 t.visits.length g3))
   replace B4:=h! (B4.out.only hO_ (by first | assumption | (simp;done) | omega))
   replace B5:=h! (B5.out.only hO_ (by first | assumption | (simp;done) | omega))
   replace B2:=h! (B2.out.only hO_ (by first | assumption | (simp;done) | omega))
   replace BA:=h! (BA.out.only hO_ (by first | assumption | (simp;done) | omega))
   replace HOZ:=h! ((((((((HOZ.out.other (p:=⟨bBB,0,none⟩) (.int .i64 t.how) (by simp)).other (p:=⟨bBB,1,none⟩) (.int .i64 t.value) (by simp)).other (p:=⟨bBB,2,none⟩) (.int .i64 t.trap) (by simp)).other (p:=⟨bBB,3,none⟩) (.slice d1 t.out.length g1) (by simp)).other (p:=⟨bBB,4,none⟩) (.slice d2 t.arrays.length g2) (by simp)).other (p:=⟨bBB,5,none⟩) (.int .i64 t.steps) (by simp)).other (p:=⟨bBB,6,none⟩) (.int .i64 t.checks) (by simp)).other (p:=⟨bBB,7,none⟩) (.slice d3 t.visits.length g3) (by simp))
   replace HW:=h! (hO_.2.2 HW.out (by first | assumption | omega | (have:=HW.out.size;omega) | (simp;done) | (simp;omega)))
   replace BB:=h! (Box.to (A':=#[(.int .i64 t.how),(.int .i64 t.value),(.int .i64 t.trap),(.slice d1 t.out.length g1),(.slice d2 t.arrays.length g2),(.int .i64 t.steps),(.int .i64 t.checks),(.slice d3 t.visits.length g3)]) ((((((((BB.out.set 0 (.int .i64 t.how)).set 1 (.int .i64 t.value)).set 2 (.int .i64 t.trap)).set 3 (.slice d1 t.out.length g1)).set 4 (.slice d2 t.arrays.length g2)).set 5 (.int .i64 t.steps)).set 6 (.int .i64 t.checks)).set 7 (.slice d3 t.visits.length g3)) (by first | rfl | simp))
   have hz1_:((((((((w6x0.setCell ⟨bBB,0,none⟩ (.int .i64 t.how)).setCell ⟨bBB,1,none⟩ (.int .i64 t.value)).setCell ⟨bBB,2,none⟩ (.int .i64 t.trap)).setCell ⟨bBB,3,none⟩ (.slice d1 t.out.length g1)).setCell ⟨bBB,4,none⟩ (.slice d2 t.arrays.length g2)).setCell ⟨bBB,5,none⟩ (.int .i64 t.steps)).setCell ⟨bBB,6,none⟩ (.int .i64 t.checks)).setCell ⟨bBB,7,none⟩ (.slice d3 t.visits.length g3)).heap.size=wg.heap.size:=hO_.1.trans hz0_
   clear hz0_
   clear hO_
   generalize ((((((((w6x0.setCell ⟨bBB,0,none⟩ (.int .i64 t.how)).setCell ⟨bBB,1,none⟩ (.int .i64 t.value)).setCell ⟨bBB,2,none⟩ (.int .i64 t.trap)).setCell ⟨bBB,3,none⟩ (.slice d1 t.out.length g1)).setCell ⟨bBB,4,none⟩ (.slice d2 t.arrays.length g2)).setCell ⟨bBB,5,none⟩ (.int .i64 t.steps)).setCell ⟨bBB,6,none⟩ (.int .i64 t.checks)).setCell ⟨bBB,7,none⟩ (.slice d3 t.visits.length g3))=w6 at *
   clear hz1_
   obtain ⟨lB4,cB4,fB4⟩:=B4.out
   obtain ⟨lB5,cB5,fB5⟩:=B5.out
   obtain ⟨lB2,cB2,fB2⟩:=B2.out
   obtain ⟨lBA,cBA,fBA⟩:=BA.out
   obtain ⟨lBB,cBB,fBB⟩:=BB.out
   have HS5:Hid (j8 w6 (.agg #[.int .i64 s.how,.int .i64 s.value,.int .i64 s.trap,.slice a1 s.out.length c1,.slice a2 s.arrays.length c2,.int .i64 s.steps,.int .i64 s.checks,.slice a3 s.visits.length c3]) s):=h! (HS.out.off HOZ.out HN2.out).val
   have HT5:Hid (j8 w6 (.agg #[.int .i64 t.how,.int .i64 t.value,.int .i64 t.trap,.slice d1 t.out.length g1,.slice d2 t.arrays.length g2,.int .i64 t.steps,.int .i64 t.checks,.slice d3 t.visits.length g3]) t):=h! (HT.out.off HOZ.out HN5.out).val
   clear HS HT HOZ HN2 HN5
   by_cases h3:s.how=3
   ·have hq:(s.how == 3)=true:=by simpa using h3
    clear h3
    go_wp2
    go_ret
    exact ⟨rfl,HW.out⟩
   have hq:(s.how == 3)=false:=by simpa using h3
   obtain ⟨k1,k2,k3,k4,k5,k6,k7,k8,k9⟩:=HSQ.out.resolve_left h3
   have HAL:Hid (kH s t=true):=h! (by unfold kH;rw [k1,k2,k3,k4,k5];simp)
   have q1:(s.checks == t.checks)=true:=by rw [k6];simp
   have q2:decide (s.steps <= t.steps)=true:=by simpa using k8
   have q3:IntKind.i64.wrap (2 * s.steps)=2 * s.steps:=by rw [gZ];exact aB4 ⟨by omega,by omega⟩
   have q4:decide (t.steps <= 2 * s.steps)=true:=by simpa using k9
   clear h3 k1 k2 k3 k4 k5 k6 k7 k8 k9 HSQ
   go_wp2_with fail
   refine (aDE HS5.out HT5.out).mono ?_
   rintro e w9 ⟨rfl,hb⟩
   rw [HAL.out]
   clear lB4 cB4 fB4 lB5 cB5 fB5 lB2 cB2 fB2 lBA cBA fBA lBB cBB fBB
   replace B4:=h! (B4.out.later hb)
   replace B5:=h! (B5.out.later hb)
   replace B2:=h! (B2.out.later hb)
   replace BA:=h! (BA.out.later hb)
   replace BB:=h! (BB.out.later hb)
   replace HW:=h! (HW.out.trans (hb.mono HW.out.size))
   clear hb
   obtain ⟨lB4,cB4,fB4⟩:=B4.out
   obtain ⟨lB5,cB5,fB5⟩:=B5.out
   obtain ⟨lB2,cB2,fB2⟩:=B2.out
   obtain ⟨lBA,cBA,fBA⟩:=BA.out
   obtain ⟨lBB,cBB,fBB⟩:=BB.out
   go_wp2
   go_ret
   exact ⟨rfl,HW.out⟩
end
end
end Go.Proofs.YtgmhnepmkaonaaaGreat
