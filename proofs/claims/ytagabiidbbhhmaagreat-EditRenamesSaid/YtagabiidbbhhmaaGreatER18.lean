/- Part 18. -/
import Derived.Test.YtagabiidbbhhmaaGreatER17
namespace Go.Proofs.YtagabiidbbhhmaaGreat
set_option maxHeartbeats 12800000
set_option linter.all false
open Go.RowKit
theorem Own.put {W:World} {base:Nat} {bs:List Nat} {e:TypeId} {g n cap:Nat} {cs:List Value} (h:Own W base bs e 1 (.slice (some ⟨g,0,none⟩) n cap) n cs) {i:Nat} (hi:i < n) (u:Value) :
  Own (W.setCell ⟨g,i,none⟩ u) base bs e 1 (.slice (some ⟨g,0,none⟩) n cap) n (cs.set i u):=by
 refine ⟨⟨by rw [bX];exact h.row.1, ?_⟩,h.free⟩
 rcases h.row.2 with ⟨h2,_⟩ | ⟨g',cap',aa,hv,hb,hh,h1,h2,h3,h4⟩
 ·cases h2
 ·cases hv
  refine .inr ⟨g,cap,aa.setIfInBounds i u,rfl,hb, ?_,h1,h2,by simpa using h3, ?_⟩
  ·simp [World.setCell,dD,hh]
  rw [<-h4]
  simp only [Array.toList_setIfInBounds]
  rw [List.take_set]
theorem Own.cells {W:World} {base:Nat} {bs:List Nat} {e:TypeId} {v:Value} {n:Nat} {cs:List Value} (h:Own W base bs e 1 v n cs) (hn:0 < n):∃ g cap,v = .slice (some ⟨g,0,none⟩) n cap/\g ∉ bs/\base <= g/\g < W.heap.size/\n <= cap/\cap <= 9223372036854775807/\(∀ i x,cs[i]? = some x -> W.cell? ⟨g,i,none⟩=some x) /\ ∀ o,W.frozen? ⟨g,o,none⟩=false:=by
 rcases h.row.2 with ⟨_,h2⟩ | ⟨g,cap,cur,hv,hb,hh,h1,h2,h3,h4⟩
 ·omega
 refine ⟨g,cap,hv,h.free g (by rw [hv];rfl),hb,(aN.1 hh).1,h1,by unfold maxLen at h2;omega,fun i x hx => ?_,fun o => ?_⟩
 ·simp only [World.cell?,hh]
  rw [<-h4,bC] at hx
  split at hx
  ·simpa using hx
  cases hx
 simp only [World.frozen?,hh];simp
theorem Own.ints {W:World} {base:Nat} {bs:List Nat} {e:TypeId} {v:Value} {xs:List Int} (h:Own W base bs e 1 v xs.length (xs.map (.int .i64))) (hn:xs.length <= 17592186044416) (hx:∀ x ∈ xs,In64 x):Ints W v xs:=Ints.of_own h.row hn hx
def Rise (L:List Int):Prop:=L.Pairwise (· < ·)
theorem Rise.lt {L:List Int} (h:Rise L) {i j:Nat} {x y:Int} (hi:L[i]? = some x) (hj:L[j]? = some y) (hij:i < j):x < y:=by
 obtain ⟨aa,rfl⟩:=aF.1 hi
 obtain ⟨ab,rfl⟩:=aF.1 hj
 exact (List.pairwise_iff_getElem.1 h) i j aa ab hij
def aFP (L:List Int) (n r:Int):Prop:=(∃ j:Nat,L[j]? = some n/\r=j) \/ (n ∉ L/\r = -1)
theorem tW {w:World} {v:Value} {L:List Int} {x r:Int} (hv:Ints w v L) (hR:Rise L) (hr:aFP L x r) :
  Calls Tryz.prog 70 #[v,.int .i64 x] w fun e w'=>e = .returned (.int .i64 r)/\w=w':=by
 obtain ⟨a,c,b,o,rfl,hc,hm,ha,hx⟩:=hv.parts
 have ak:=hv.1.big
 obtain ⟨n,hn⟩ : ∃ n,n=L.length:=⟨_,rfl⟩
 rw [<-hn] at hc ha hx ak ⊢
 have HN:=h! hn
 have HA:=h! ha
 have HX:=h! hx
 have HR:=h! hR
 have HF:=h! hr
 clear hv hR hr hn ha hx
 go_enter Tryz.func70,Tryz.ntmps70
 go_wp2
 go_loopw [5,6] (fun a b wr => ∃ lo hi:Nat,lo <= hi/\hi <= n/\a = .int .i64 lo/\b = .int .i64 hi/\(∀ i y,i < lo -> L[i]? = some y -> y < x)/\(∀ i y,hi <= i -> L[i]? = some y -> x < y)/\wr=w) (fun a b _=>(intOf b).toNat - (intOf a).toNat)
 case atStart=>exact ⟨0,n,aJ _,aB _,rfl,rfl,fun i y h=>by omega,fun i y h hy=>by have:=(aF.1 hy).1;have:=HN.out;omega,rfl⟩
 case round =>
  obtain ⟨lo,hi,hlh,ah,rfl,rfl,ac,aa,rfl⟩:=hrel
  have ad:=h! ac
  have ae:=h! aa
  clear ac aa
  by_cases hlt:lo < hi
  ·obtain ⟨m,af⟩ : ∃ m,m=(lo+hi) / 2:=⟨_,rfl⟩
   have al:lo <= m:=by omega
   have hm2:m < hi:=by omega
   have aj:m < n:=by omega
   obtain ⟨rfl,hbw⟩:=HA.out (by omega)
   have h0:=HX.out m aj
   have ag:=fK L m (by have:=HN.out;omega)
   have ab:=h! ag
   have hq:((lo:Int)+(hi:Int)) / 2=(m:Int):=by omega
   have HMM:=h! af
   clear af ag
   generalize L.getD m 0=y at *
   cases h1:(y == x)
   ·cases h2:decide (y < x)
    ·have H1:=h! h1
     have H2:=h! h2
     go_wp2
     go_roundw
     case rel =>
      refine ⟨lo,m,al,by omega,rfl,by first | rfl | rw [hq],ad.out,fun i z hi hz => ?_,by trivial⟩
      have e1:=H1.out
      have e2:=H2.out
      simp at e1 e2
      by_cases he:i=m
      ·subst he
       have:z=y:=by have:=ab.out;rw [hz] at this;cases this;rfl
       omega
      have:=HR.out.lt ab.out hz (by omega)
      omega
     simp [intOf];omega
    have H2:=h! h2
    go_wp2
    go_roundw
    case rel =>
     refine ⟨m+1,hi,by omega,ah,by first | go_num | (rw [hq];rfl),rfl,fun i z hi hz => ?_,ae.out,by trivial⟩
     have e2:=H2.out
     simp at e2
     by_cases he:i=m
     ·subst he
      have:z=y:=by have:=ab.out;rw [hz] at this;cases this;rfl
      omega
     have:=HR.out.lt hz ab.out (by omega)
     omega
    simp [intOf];omega
   have H1:Hid (y=x):=h! (by simpa using h1)
   go_wp2
   go_ret
   refine ⟨?_,rfl⟩
   have e1:=ab.out
   rw [H1.out] at e1
   rcases HF.out with ⟨j,hj,rfl⟩ | ⟨ai,_⟩
   ·have:j=m:=by
     by_cases hjm:j < m
     ·have:=HR.out.lt hj e1 hjm;omega
     ·by_cases hmj:m < j
      ·have:=HR.out.lt e1 hj hmj;omega
      omega
    rw [this];rfl
   exact absurd (aG e1) ai
  obtain rfl:lo=hi:=by omega
  go_wp2
  go_ret
  refine ⟨?_,rfl⟩
  rcases HF.out with ⟨j,hj,rfl⟩ | ⟨_,rfl⟩
  ·by_cases hjl:j < lo
   ·have:=ad.out j x hjl hj;omega
   have:=ae.out j x (by omega) hj;omega
  rfl
def iZ (S:List Int) (k:Nat) (x:Int):List Int:=S.take k ++ x :: S.drop k
theorem lT (S:List Int) (k:Nat) (x:Int) (h:k <= S.length):(iZ S k x).length=S.length+1:=by
 unfold iZ;rw [aI,aV,bF,dF];omega
theorem sJ (S:List Int) (x:Int):iZ S S.length x=S ++ [x]:=by unfold iZ;simp
theorem oT (S:List Int) (k:Nat) (y x:Int) (h:k <= S.length):(iZ S k y).set k x=iZ S k x:=by
 unfold iZ
 rw [List.set_append_right _ _ (by rw [aV];omega)]
 congr 1
 rw [aV,dW h,dP];rfl
theorem oU (S:List Int) (k:Nat) (y z:Int) (hz:S[k]? = some z):(iZ S (k+1) y).set (k+1) z=iZ S k z:=by
 have hk:=(aF.1 hz).1
 rw [oT _ _ _ _ (by omega)]
 unfold iZ
 have h1:S.take (k+1)=S.take k ++ [z]:=eT S k z hz
 have h2:S.drop k=z :: S.drop (k+1):=by
  obtain ⟨_,rfl⟩:=aF.1 hz
  exact List.drop_eq_getElem_cons hk
 rw [h1,h2];simp
theorem sK (S:List Int) (k i:Nat) (y z:Int) (hi:i < k) (hz:S[i]? = some z):(iZ S k y)[i]? = some z:=by
 have:=(aF.1 hz).1
 unfold iZ
 rw [dK (by rw [aV];omega),bC,if_pos hi]
 exact hz
theorem aAF (S:List Int) (k:Nat) (x y:Int):y ∈ iZ S k x ↔ y=x \/ y ∈ S:=by
 unfold iZ
 rw [aM,bU]
 have h:=dC k S
 constructor
 ·rintro (h1 | h1 | h1)
  ·exact .inr (cU h1)
  ·exact .inl h1
  exact .inr (List.mem_of_mem_drop h1)
 rintro (h1 | h1)
 ·exact .inr (.inl h1)
 rw [<-h,aM] at h1
 rcases h1 with h1 | h1
 ·exact .inl h1
 exact .inr (.inr h1)
theorem xA {S:List Int} {k:Nat} {x:Int} (hS:Rise S) (hlo:∀ j y,j < k -> S[j]? = some y -> y < x) (hhi:∀ j y,k <= j -> S[j]? = some y -> x < y):Rise (iZ S k x):=by
 unfold iZ Rise
 have h1:(S.take k).Pairwise (· < ·):=List.Pairwise.sublist (List.take_sublist _ _) hS
 have h2:(S.drop k).Pairwise (· < ·):=List.Pairwise.sublist (List.drop_sublist _ _) hS
 rw [List.pairwise_append,List.pairwise_cons]
 have g1:∀ y ∈ S.take k,y < x:=fun y hy=>by
  obtain ⟨j,hj⟩:=bL.1 hy
  rw [bC] at hj
  split at hj
  ·rename_i h;exact hlo j y h hj
  cases hj
 have g2:∀ y ∈ S.drop k,x < y:=fun y hy=>by
  obtain ⟨j,hj⟩:=bL.1 hy
  rw [bT] at hj
  exact hhi (k+j) y (by omega) hj
 refine ⟨h1,⟨g2,h2⟩,fun a ha b hb => ?_⟩
 rcases bU.1 hb with rfl | hb
 ·exact g1 a ha
 have:=g1 a ha;have:=g2 b hb;omega
structure IdsS (np:Nat) (T:List (Int × Int)) (i:Nat) (S:List Int):Prop where
 rise:Rise S
 len:S.length=i
 mem:∀ y,y ∈ S ↔ y ∈ (T.take i).map (·.1)
 ok:∀ j p,T[j]? = some p -> j < i -> np <= j -> (np:Int) <= p.1/\p.1 < 1048576
 nodup:((T.take i).map (·.1)).Nodup
theorem IdsS.start (np:Nat) (T:List (Int × Int)):IdsS np T 0 []:=⟨List.Pairwise.nil,rfl,fun y=>by simp,fun j p _ h=>by omega,by simp⟩
theorem IdsS.step {np:Nat} {T:List (Int × Int)} {i:Nat} {S:List Int} (h:IdsS np T i S) {p:Int × Int} (hp:T[i]? = some p) (hok:np <= i -> (np:Int) <= p.1/\p.1 < 1048576) {k:Nat} (hk:k <= S.length)
  (hlo:∀ j y,j < k -> S[j]? = some y -> y < p.1) (hhi:∀ j y,k <= j -> S[j]? = some y -> p.1 < y):IdsS np T (i+1) (iZ S k p.1):=by
 have ht:(T.take (i+1)).map (·.1)=(T.take i).map (·.1) ++ [p.1]:=by rw [eT T i p hp,aZ];rfl
 have aa:p.1 ∉ S:=fun hm=>by
  obtain ⟨j,hj⟩:=bL.1 hm
  by_cases hjk:j < k
  ·have:=hlo j _ hjk hj;omega
  have:=hhi j _ (by omega) hj;omega
 refine ⟨xA h.rise hlo hhi,by rw [lT _ _ _ hk,h.len],fun y => ?_,fun j q hq hj hn => ?_, ?_⟩
 ·rw [aAF,ht,aM,dB,h.mem y];exact or_comm
 ·by_cases e:j=i
  ·subst e;rw [hp] at hq;cases hq;exact hok hn
  exact h.ok j q hq (by omega) hn
 ·rw [ht,cC]
  refine ⟨h.nodup,by simp,fun a ha b hb e => ?_⟩
  simp at hb
  subst hb
  subst e
  exact aa ((h.mem _).2 ha)
theorem kY (ps:List Int):(parT ps).length=ps.length:=by unfold parT;simp
theorem aAG {f:FuncD} {j:Nat} (hj:j < f.params.length):∃ t,(fJ f)[j]? = some ((j:Int),t):=by
 refine ⟨f.params.getD j 0, ?_⟩
 unfold fJ
 rw [dK (by rw [kY];exact hj)]
 unfold parT
 rw [aQ,cT,fK f.params j hj]
 simp
theorem sL {f:FuncD} {j:Nat} (hj:f.params.length <= j):(fJ f)[j]? = (oC f)[j - f.params.length]?:=by
 unfold fJ
 rw [cE (by rw [kY];exact hj),kY]
theorem IdsS.done {f:FuncD} {S:List Int} (h:IdsS f.params.length (fJ f) (fJ f).length S):idsF f=true:=by
 unfold idsF idsB
 rw [aL,decide_eq_true_eq,bB]
 refine ⟨by have:=h.nodup;rwa [cX] at this,fun p hp => ?_⟩
 obtain ⟨j,hj⟩:=bL.1 hp
 have h1:(fJ f)[f.params.length+j]? = some p:=by rw [sL (by omega)];rw [show f.params.length+j - f.params.length=j by omega];exact hj
 have h2:=h.ok (f.params.length+j) p h1 (aF.1 h1).1 (by omega)
 simp;omega
theorem IdsS.in64 {f:FuncD} {S:List Int} (h:IdsS f.params.length (fJ f) (fJ f).length S) (hn:f.params.length <= 4611686018427387904):∀ y ∈ S,In64 y:=by
 intro y hy
 have h1:=(h.mem y).1 hy
 rw [cX] at h1
 obtain ⟨p,hp,rfl⟩:=aX.1 h1
 obtain ⟨j,hj⟩:=bL.1 hp
 by_cases hjp:j < f.params.length
 ·obtain ⟨t,ht⟩:=aAG hjp
  rw [hj] at ht;cases ht
  exact ⟨by simp only;omega,by simp only;omega⟩
 have h2:=h.ok j p hj (aF.1 hj).1 (by omega)
 exact ⟨by omega,by omega⟩
theorem aAH {f:FuncD} {i:Nat} {p:Int × Int} (hp:(fJ f)[i]? = some p) (hi:f.params.length <= i) (hbad:¬ ((f.params.length:Int) <= p.1/\p.1 < 1048576)):idsF f=false:=by
 unfold idsF idsB
 rw [Bool.and_eq_false_iff]
 right
 rw [cI]
 refine ⟨p,aG (by rw [<-sL hi];exact hp), ?_⟩
 simp;omega
theorem aAI {f:FuncD} {i:Nat} {S:List Int} (h:IdsS f.params.length (fJ f) i S) {p:Int × Int} (hp:(fJ f)[i]? = some p) (hm:p.1 ∈ S):idsF f=false:=by
 unfold idsF idsB
 rw [Bool.and_eq_false_iff]
 left
 rw [decide_eq_false_iff_not]
 intro aa
 have h1:((fJ f).take (i+1)).map (·.1)=((fJ f).take i).map (·.1) ++ [p.1]:=by rw [eT _ i p hp,aZ];rfl
 have h2:(((fJ f).take (i+1)).map (·.1)).Nodup:=List.Nodup.sublist (List.Sublist.map _ (List.take_sublist _ _)) aa
 rw [h1,cC] at h2
 exact h2.2.2 p.1 ((h.mem _).1 hm) p.1 (by simp) rfl
theorem mY (T:List (Int × Int)) (i:Nat) (p:Int × Int) (h:T[i]? = some p):(iH T)[i * 2]? = some (.int .i64 p.1)/\(iH T)[i * 2+1]? = some (.int .i64 p.2):=by
 unfold iH
 induction T generalizing i with
 | nil=>cases h
 | cons q T ih =>
  cases i with
  | zero=>simp at h;subst h;simp
  | succ i =>
   simp at h
   obtain ⟨h1,h2⟩:=ih i h
   rw [cD,show (i+1) * 2=i * 2+2 by omega,show i * 2+2+1=(i * 2+1)+2 by omega]
   simp only [List.cons_append,dX,List.getElem?_cons_succ]
   exact ⟨h1,h2⟩
theorem sM (T:List UseD) (i:Nat) (u:UseD) (h:T[i]? = some u):(jD T)[i * 5]? = some (.int .i64 u.id)/\(jD T)[i * 5+1]? = some (.int .i64 u.typ)/\(jD T)[i * 5+2]? = some (.int .i64 u.blk)/\(jD T)[i * 5+3]? = some (.int .i64 u.pos)/\(jD T)[i * 5+4]? = some (.int .i64 u.src):=by
 unfold jD
 induction T generalizing i with
 | nil=>cases h
 | cons q T ih =>
  cases i with
  | zero=>simp at h;subst h;simp
  | succ i =>
   simp at h
   obtain ⟨h1,h2,h3,h4,h5⟩:=ih i h
   rw [cD,show (i+1) * 5=i * 5+5 by omega,show i * 5+5+1=(i * 5+1)+5 by omega,show i * 5+5+2=(i * 5+2)+5 by omega,show i * 5+5+3=(i * 5+3)+5 by omega,show i * 5+5+4=(i * 5+4)+5 by omega]
   simp only [List.cons_append,dX,List.getElem?_cons_succ]
   exact ⟨h1,h2,h3,h4,h5⟩
theorem aD5 {W:World} {base:Nat} {e:TypeId} {size:Nat} {v:Value} {n:Nat} {cs:List Value} (h:W.ownsRow base e size v n cs) (hp:0 < n):∃ g cap A,v = .slice (some ⟨g,0,none⟩) n cap/\base <= g/\n <= cap/\cap <= 9223372036854775807/\Box W g A /\ ∀ (i:Nat) (x:Value),cs[i]? = some x -> A[i]? = some x:=by
 rcases h.2 with ⟨_,h2⟩ | ⟨g,cap,aa,hv,hb,hh,h1,h2,h3,h4⟩
 ·omega
 refine ⟨g,cap,aa,hv,hb,h1,by unfold maxLen at h2;omega,⟨(aN.1 hh).1,fun o => ?_,fun o => ?_⟩,fun j x hj => ?_⟩
 ·simp only [World.cell?,hh];simp
 ·simp only [World.frozen?,hh];simp
 rw [<-h4,bC] at hj
 split at hj
 ·simpa using hj
 cases hj
theorem tX {W:World} {base:Nat} {e:TypeId} {size:Nat} {v:Value} {n:Nat} {cs:List Value} (h:W.ownsRow base e size v n cs):∃ a c,v = .slice a n c:=by
 rcases h.2 with ⟨rfl,rfl⟩ | ⟨g,cap,cur,rfl,_⟩
 ·exact ⟨_,_,rfl⟩
 exact ⟨_,_,rfl⟩
def IdsR (f:FuncD) (w:World) (e:Ending) (w' : World):Prop:=Below w.heap.size w w' /\ ((idsF f=false/\e = .returned (.tuple #[.slice none 0 0,.bool false])) \/
 (idsF f=true /\ ∃ u S,e = .returned (.tuple #[u,.bool true])/\New 3 w w' u S/\IdsS f.params.length (fJ f) (fJ f).length S))
set_option maxRecDepth 100000 in
theorem xB {w:World} {v:Value} {f:FuncD} (hv:fU w v f) (hsm:(fJ f).length <= 8191) (hpos:0 < (fJ f).length):Calls Tryz.prog 19 #[v] w (IdsR f w):=by
 have HV:=h! hv
 obtain ⟨ap,cp,ab,cb,rfl,hp,ha,hc,hB⟩:=hv.form
 have dc:=hp.1.big
 obtain ⟨np,bo⟩ : ∃ np,np=f.params.length:=⟨_,rfl⟩
 obtain ⟨nb,cn⟩ : ∃ nb,nb=f.blocks.length:=⟨_,rfl⟩
 obtain ⟨ar,ct⟩ : ∃ ar,ar=f.arrays:=⟨_,rfl⟩
 obtain ⟨ce,ck⟩ : ∃ ce,ce=f.cells:=⟨_,rfl⟩
 obtain ⟨n,hn⟩ : ∃ n,n=(fJ f).length:=⟨_,rfl⟩
 rw [<-bo, <-cn, <-ct, <-ck] at HV ⊢
 rw [<-hn] at hsm hpos
 rw [<-bo] at dc
 have bd:=h! bo
 have HN:=h! hn
 have cj:=h! hsm
 clear hp ha hc hB hv bo cn ct ck hn
 go_enter Tryz.func19,Tryz.ntmps19
 go_upto_region 1 with (fail)
 have cm:=(Below.refl w.heap.size w).alloc (aB _) (.cells #[.slice ap np cp,.int .i64 ar,.int .i64 ce,.slice ab nb cb] 25)
 have HW:=h! cm
 clear cm
 have B1:=h! (Box.new w #[.slice ap np cp,.int .i64 ar,.int .i64 ce,.slice ab nb cb] 25)
 generalize w.alloc (.cells #[.slice ap np cp,.int .i64 ar,.int .i64 ce,.slice ab nb cb] 25)=wv at *
 obtain ⟨al,aq,ao⟩:=B1.out
 go_wp2_with fail
 refine (oS (HV.out.below HW.out) (by rw [<-HN.out];have:=cj.out;omega)).mono ?_
 rintro e w1 ⟨u,rfl,hu,cc⟩
 rw [<-HN.out] at hu
 obtain ⟨g,capV,A,rfl,hg,hcV1,hcV2,bi,cs⟩:=aD5 hu hpos
 have db:=al
 clear al aq ao
 replace B1:=h! (B1.out.later cc)
 replace HW:=h! (HW.out.trans (cc.mono HW.out.size))
 clear cc
 obtain ⟨al,aq,ao⟩:=B1.out
 have BV:=h! bi
 have cx:=h! cs
 have n1:g ≠ w.heap.size:=by omega
 have n2:w.heap.size ≠ g:=fun e=>n1 e.symm
 have hgw:w.heap.size < g:=by omega
 clear hu bi cs db hg
 go_wp2_with fail
 have HO:Hid (Own (w1.alloc (.cells #[] 3)) w.heap.size [g,w.heap.size] 3 1 (.slice (some ⟨w1.heap.size,0,none⟩) 0 0) 0 []):=h! (kE HW.out.size (by intro b hb;have:=BV.out.lt;simp at hb;omega) 1)
 have bp:=(Below.refl w1.heap.size w1).alloc (aB _) (.cells #[] 3)
 replace BV:=h! (BV.out.later bp)
 clear al aq ao
 replace B1:=h! (B1.out.later bp)
 replace HW:=h! (HW.out.trans (bp.mono HW.out.size))
 clear bp
 obtain ⟨al,aq,ao⟩:=B1.out
 generalize w1.alloc _=wa at *
 go_loopw [5,6] (fun u ii wr => ∃ (i:Nat) (S:List Int),i <= n/\ii = .int .i64 i/\Own wr w.heap.size [g,w.heap.size] 3 1 u S.length (S.map (.int .i64))/\IdsS np (fJ f) i S/\Below w.heap.size w wr/\Box wr w.heap.size #[.slice ap np cp,.int .i64 ar,.int .i64 ce,.slice ab nb cb]/\Box wr g A) (fun _ ii _=>n - (intOf ii).toNat)
 case atStart=>exact ⟨0,[],aJ _,rfl,HO.out,IdsS.start _ _,HW.out,B1.out,BV.out⟩
 obtain ⟨i,S,hi,rfl,hO,bs,hW,am,an⟩:=hrel
 clear al aq ao
 obtain ⟨oa,oc,rfl⟩:=hO.form
 replace HO:=h! hO
 have ay:=h! bs
 replace HW:=h! hW
 replace B1:=h! am
 replace BV:=h! an
 have hSn:S.length <= 8191:=by have:=bs.len;have:=cj.out;omega
 clear hO bs hW am an
 generalize wr=wi at *
 obtain ⟨al,aq,ao⟩:=B1.out
 obtain ⟨cl,cv,co⟩:=BV.out
 by_cases hlti:i < n
 ·obtain ⟨p,hp⟩ : ∃ p,(fJ f)[i]? = some p:=⟨_,aC (by have:=HN.out;omega)⟩
  obtain ⟨x,t⟩:=p
  have bm:=h! hp
  have cy:=cx.out (i * 2) _ (mY _ _ _ hp).1
  clear hp
  simp only at cy
  have bf:(((np:Int) <= i) /\ ¬ ((np:Int) <= x/\x < 1048576)) \/ ((i:Int) < np \/ ((np:Int) <= i/\(np:Int) <= x/\x < 1048576)):=by omega
  rcases bf with bh | bg
  ·have bl:=h! bh
   obtain ⟨h1,h2⟩:=bh
   have h3:x < (np:Int) \/ ((np:Int) <= x/\1048576 <= x):=by omega
   clear h2
   rcases h3 with h3 | ⟨h3,h4⟩
   all_goals
    go_wp2
    go_ret2
    exact ⟨HW.out,.inl ⟨aAH bm.out (by have:=bl.out.1;have:=bd.out;omega) (by rw [<-bd.out];exact bl.out.2),rfl⟩⟩
  have cr:Hid (np <= i -> (np:Int) <= x/\x < 1048576):=h! (by intro h;omega)
  rcases bg with h1 | ⟨h1,h2,h3⟩
  all_goals
   go_wp2_with fail
   try clear h2
   try clear h3
   clear h1
   go_loopw [8] (fun aa wr => ∃ q:Nat,q <= S.length/\aa = .int .i64 q/\(∀ j y,q <= j -> S[j]? = some y -> x < y)/\wr=wi) (fun aa _=>(intOf aa).toNat)
   case atStart=>exact ⟨S.length,aB _,by go_num,fun j y h hy=>by have:=(aF.1 hy).1;omega,rfl⟩
   obtain ⟨q,hq,rfl,cq,rfl⟩:=hrel
   have bv:=h! cq
   clear cq
   by_cases hq0:q=0
   ·subst hq0
    have bx:Hid (IdsS np (fJ f) (i+1) (iZ S 0 x)):=h! (ay.out.step bm.out cr.out (aJ _) (fun j y h=>by omega) bv.out)
    obtain ⟨sl,ba⟩ : ∃ sl,sl=S.length:=⟨_,rfl⟩
    rw [<-ba] at HO ⊢
    have ae:=h! ba
    have bz:sl+1 <= 8192:=by have:=ay.out.len;omega
    have ch:0 <= sl:=by omega
    clear ba
    go_wp2_with (at_builtin;refine gF rfl _ _ 22 3 rfl mI rfl rfl (HO.out.alloc _) (Row.of_box (n:=1) (size:=1) (Box.new _ _ _) rfl (by omega)) (by simp [Value.oneCell']) (by unfold maxLen;omega) (by omega) (by simp;have:=HW.out.size;omega) (by intro b hb;simp at hb ⊢;omega) ?_;intro v2 w2 az ai bc;obtain ⟨g2,ah,rfl,be,cB,cf,cL,cG,_,_⟩:=az.cells (by omega);have bj:=h! az;have ag:=h! ai;have bk:=h! bc;clear az ai bc)
    have ak:Hid (g2 ≠ g/\g2 ≠ w.heap.size):=h! (by simpa using be)
    clear be
    clear al aq ao cl cv co
    replace B1:=h! (ag.out _ _ (by simp) (B1.out.alloc _))
    replace BV:=h! (ag.out _ _ (by simp) (BV.out.alloc _))
    replace HW:=h! ((HW.out.alloc (by have:=HW.out.size;omega) _).trans bk.out)
    replace HO:Hid (Own w2 w.heap.size [g,w.heap.size] 3 1 (.slice (some ⟨g2,0,none⟩) (sl+1) ah) (sl+1) ((iZ S sl 0).map (.int .i64))):=h! (by rw [ae.out,sJ,aZ];have:=bj.out;rw [ae.out] at this;exact this)
    clear bk ag bj
    go_loopw [9] (fun kk wr => ∃ (k:Nat) (y:Int),0 <= k/\k <= sl/\kk = .int .i64 k/\Own wr w.heap.size [g,w.heap.size] 3 1 (.slice (some ⟨g2,0,none⟩) (sl+1) ah) (sl+1) ((iZ S k y).map (.int .i64))/\Below w.heap.size w wr/\Box wr w.heap.size #[.slice ap np cp,.int .i64 ar,.int .i64 ce,.slice ab nb cb]/\Box wr g A) (fun kk _=>(intOf kk).toNat)
    case atStart=>exact ⟨sl,0,ch,aB _,by go_num,HO.out,HW.out,B1.out,BV.out⟩
    obtain ⟨k,y,cz,cw,rfl,hO,hW,am,an⟩:=hrel
    replace HO:=h! hO
    replace HW:=h! hW
    replace B1:=h! am
    replace BV:=h! an
    clear hW am an
    obtain ⟨g3,bq,cd,_,_,ci,_,_,af,ac⟩:=hO.cells (by omega)
    cases cd
    clear hO
    have ad:=h! af
    clear af
    by_cases hlt:0 < k
    ·obtain ⟨k,rfl⟩ : ∃ k',k=k' + 1:=⟨k - 1,by omega⟩
     have bb:=fK S k (by have:=ae.out;omega)
     have hc:=ad.out k (.int .i64 (S.getD k 0)) (by rw [aQ,sK S (k+1) k y _ (by omega) bb];rfl)
     have bO:=ad.out (k+1) (.int .i64 y) (by rw [aQ];unfold iZ;rw [cE (by rw [aV];have:=ae.out;omega)];rw [aV,dW (by have:=ae.out;omega),dP];rfl)
     have cg:=h! (oU S k y _ bb)
     clear bb
     generalize S.getD k 0=z at *
     have br:=ac (k+1)
     clear ac
     go_wp2
     go_roundw
     case rel=>exact ⟨k,z,by omega,by omega,by go_num,by have h:=HO.out.put (i:=k+1) (by omega) (.int .i64 z);rw [<-List.map_set,cg.out] at h;exact h,HW.out.setCell (by omega) _,B1.out.other _ (by have:=ak.out;simp;omega),BV.out.other _ (by have:=ak.out;simp;omega)⟩
     simp [intOf]
    obtain rfl:k=0:=by omega
    have bO:=ad.out 0 (.int .i64 y) (by rw [aQ];unfold iZ;rw [cE (by rw [aV];have:=ae.out;omega)];rw [aV,dW (by have:=ae.out;omega),dP];rfl)
    have br:=ac 0
    clear ac
    have ca:=h! (oT S 0 y x (by have:=ae.out;omega))
    have ax:=h! (lT S 0 x (by have:=ae.out;omega))
    go_wp2
    go_roundw
    case rel=>exact ⟨i+1,iZ S 0 x,hlti,by go_num,by rw [ax.out, <-ae.out];have h:=HO.out.put (i:=0) (by omega) (.int .i64 x);rw [<-List.map_set,ca.out] at h;exact h,bx.out,HW.out.setCell (by omega) _,B1.out.other _ (by have:=ak.out;simp;omega),BV.out.other _ (by have:=ak.out;simp;omega)⟩
    simp [intOf];omega
   obtain ⟨k0,rfl⟩ : ∃ k0,q=k0+1:=⟨q - 1,by omega⟩
   obtain ⟨g4,cap4,bw,_,_,_,_,_,aj,_⟩:=HO.out.cells (by omega)
   have aw:=fK S k0 (by omega)
   have hc4:=aj k0 (.int .i64 (S.getD k0 0)) (by rw [aQ,aw];rfl)
   have bn:=h! aw
   cases bw
   clear aj aw hq0
   generalize S.getD k0 0=y4 at *
   cases hgt:decide (x < y4)
   ·cases heq:(y4 == x)
    ·have bx:Hid (IdsS np (fJ f) (i+1) (iZ S (k0+1) x)):=h! (ay.out.step bm.out cr.out hq (fun j y h hy=>by
      simp at hgt heq
      by_cases e:j=k0
      ·subst e;have:=bn.out;rw [hy] at this;cases this;omega
      ·have:=ay.out.rise.lt hy bn.out (by omega);omega) bv.out)
     obtain ⟨sl,ba⟩ : ∃ sl,sl=S.length:=⟨_,rfl⟩
     rw [<-ba] at HO ⊢
     have ae:=h! ba
     have bz:sl+1 <= 8192:=by have:=ay.out.len;omega
     have ch:(k0+1) <= sl:=by omega
     clear ba
     go_wp2_with (at_builtin;refine gF rfl _ _ 22 3 rfl mI rfl rfl (HO.out.alloc _) (Row.of_box (n:=1) (size:=1) (Box.new _ _ _) rfl (by omega)) (by simp [Value.oneCell']) (by unfold maxLen;omega) (by omega) (by simp;have:=HW.out.size;omega) (by intro b hb;simp at hb ⊢;omega) ?_;intro v2 w2 az ai bc;obtain ⟨g2,ah,rfl,be,cB,cf,cL,cG,_,_⟩:=az.cells (by omega);have bj:=h! az;have ag:=h! ai;have bk:=h! bc;clear az ai bc)
     have ak:Hid (g2 ≠ g/\g2 ≠ w.heap.size):=h! (by simpa using be)
     clear be
     clear al aq ao cl cv co
     replace B1:=h! (ag.out _ _ (by simp) (B1.out.alloc _))
     replace BV:=h! (ag.out _ _ (by simp) (BV.out.alloc _))
     replace HW:=h! ((HW.out.alloc (by have:=HW.out.size;omega) _).trans bk.out)
     replace HO:Hid (Own w2 w.heap.size [g,w.heap.size] 3 1 (.slice (some ⟨g2,0,none⟩) (sl+1) ah) (sl+1) ((iZ S sl 0).map (.int .i64))):=h! (by rw [ae.out,sJ,aZ];have:=bj.out;rw [ae.out] at this;exact this)
     clear bk ag bj
     go_loopw [9] (fun kk wr => ∃ (k:Nat) (y:Int),(k0+1) <= k/\k <= sl/\kk = .int .i64 k/\Own wr w.heap.size [g,w.heap.size] 3 1 (.slice (some ⟨g2,0,none⟩) (sl+1) ah) (sl+1) ((iZ S k y).map (.int .i64))/\Below w.heap.size w wr/\Box wr w.heap.size #[.slice ap np cp,.int .i64 ar,.int .i64 ce,.slice ab nb cb]/\Box wr g A) (fun kk _=>(intOf kk).toNat)
     case atStart=>exact ⟨sl,0,ch,aB _,by go_num,HO.out,HW.out,B1.out,BV.out⟩
     case round =>
      obtain ⟨k,y,cz,cw,rfl,hO,hW,am,an⟩:=hrel
      replace HO:=h! hO
      replace HW:=h! hW
      replace B1:=h! am
      replace BV:=h! an
      clear hW am an
      obtain ⟨g3,bq,cd,_,_,ci,_,_,af,ac⟩:=hO.cells (by omega)
      cases cd
      clear hO
      have ad:=h! af
      clear af
      by_cases hlt:(k0+1) < k
      ·obtain ⟨k,rfl⟩ : ∃ k',k=k' + 1:=⟨k - 1,by omega⟩
       have bb:=fK S k (by have:=ae.out;omega)
       have hc:=ad.out k (.int .i64 (S.getD k 0)) (by rw [aQ,sK S (k+1) k y _ (by omega) bb];rfl)
       have bO:=ad.out (k+1) (.int .i64 y) (by rw [aQ];unfold iZ;rw [cE (by rw [aV];have:=ae.out;omega)];rw [aV,dW (by have:=ae.out;omega),dP];rfl)
       have cg:=h! (oU S k y _ bb)
       clear bb
       generalize S.getD k 0=z at *
       have br:=ac (k+1)
       clear ac
       go_wp2
       go_roundw
       case rel=>exact ⟨k,z,by omega,by omega,by go_num,by have h:=HO.out.put (i:=k+1) (by omega) (.int .i64 z);rw [<-List.map_set,cg.out] at h;exact h,HW.out.setCell (by omega) _,B1.out.other _ (by have:=ak.out;simp;omega),BV.out.other _ (by have:=ak.out;simp;omega)⟩
       simp [intOf]
      obtain rfl:k=(k0+1):=by omega
      have bO:=ad.out (k0+1) (.int .i64 y) (by rw [aQ];unfold iZ;rw [cE (by rw [aV];have:=ae.out;omega)];rw [aV,dW (by have:=ae.out;omega),dP];rfl)
      have br:=ac (k0+1)
      clear ac
      have ca:=h! (oT S (k0+1) y x (by have:=ae.out;omega))
      have ax:=h! (lT S (k0+1) x (by have:=ae.out;omega))
      go_wp2
      go_roundw
      case rel=>exact ⟨i+1,iZ S (k0+1) x,hlti,by go_num,by rw [ax.out, <-ae.out];have h:=HO.out.put (i:=(k0+1)) (by omega) (.int .i64 x);rw [<-List.map_set,ca.out] at h;exact h,bx.out,HW.out.setCell (by omega) _,B1.out.other _ (by have:=ak.out;simp;omega),BV.out.other _ (by have:=ak.out;simp;omega)⟩
      simp [intOf];omega
    have da:Hid (y4=x):=h! (by simpa using heq)
    go_wp2
    go_ret2
    exact ⟨HW.out,.inl ⟨aAI (by rw [<-bd.out];exact ay.out) bm.out (by have:=aG bn.out;rw [da.out] at this;exact this),rfl⟩⟩
   have cF:=h! hgt
   go_wp2
   go_roundw
   case rel=>exact ⟨k0,by omega,by go_num,fun j y h hy=>by
     have e1:=cF.out
     simp at e1
     by_cases e:j=k0
     ·subst e;have:=bn.out;rw [hy] at this;cases this;omega
     exact bv.out j y (by omega) hy,by trivial⟩
   simp [intOf]
 obtain rfl:i=n:=by omega
 have bt:Hid (IdsS f.params.length (fJ f) (fJ f).length S):=h! (by rw [<-bd.out, <-HN.out];exact ay.out)
 have cM:Hid (New 3 w wi (.slice oa S.length oc) S):=h! ⟨HO.out.row,by omega,bt.out.in64 (by rw [<-bd.out];omega)⟩
 go_wp2
 go_ret2
 exact ⟨HW.out,.inr ⟨bt.out.done,_,_,rfl,cM.out,bt.out⟩⟩
end Go.Proofs.YtagabiidbbhhmaaGreat
