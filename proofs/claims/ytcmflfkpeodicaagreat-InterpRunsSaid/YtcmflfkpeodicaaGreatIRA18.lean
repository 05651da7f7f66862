/- Part 18. -/
import Derived.Test.YtcmflfkpeodicaaGreatIRA17
namespace Go.Proofs.YtcmflfkpeodicaaGreat
set_option maxHeartbeats 12800000
set_option linter.all false
open Go.RowKit
theorem Own.put {W:World} {base:Nat} {bs:List Nat} {e:TypeId} {g n cap:Nat} {cs:List Value} (h:Own W base bs e 1 (.slice (some ⟨g,0,none⟩) n cap) n cs) {i:Nat} (hi:i < n) (u:Value) :
  Own (W.setCell ⟨g,i,none⟩ u) base bs e 1 (.slice (some ⟨g,0,none⟩) n cap) n (cs.set i u):=by
 refine ⟨⟨by rw [bY];exact h.row.1, ?_⟩,h.free⟩
 rcases h.row.2 with ⟨h2,_⟩ | ⟨g',cap',cur,hv,hb,hh,h1,h2,h3,h4⟩
 ·cases h2
 ·cases hv
  refine .inr ⟨g,cap,cur.setIfInBounds i u,rfl,hb, ?_,h1,h2,by simpa using h3, ?_⟩
  ·simp [World.setCell,cW,hh]
  rw [<-h4]
  simp only [Array.toList_setIfInBounds]
  rw [List.take_set]
theorem Own.cells {W:World} {base:Nat} {bs:List Nat} {e:TypeId} {v:Value} {n:Nat} {cs:List Value} (h:Own W base bs e 1 v n cs) (hn:0 < n):∃ g cap,v = .slice (some ⟨g,0,none⟩) n cap/\g ∉ bs/\base <= g/\g < W.heap.size/\n <= cap/\cap <= 9223372036854775807/\(∀ i x,cs[i]? = some x -> W.cell? ⟨g,i,none⟩=some x) /\ ∀ o,W.frozen? ⟨g,o,none⟩=false:=by
 rcases h.row.2 with ⟨_,h2⟩ | ⟨g,cap,cur,hv,hb,hh,h1,h2,h3,h4⟩
 ·omega
 refine ⟨g,cap,hv,h.free g (by rw [hv];rfl),hb,(aS.1 hh).1,h1,by unfold maxLen at h2;omega,fun i x hx => ?_,fun o => ?_⟩
 ·simp only [World.cell?,hh]
  rw [<-h4,bE] at hx
  split at hx
  ·simpa using hx
  cases hx
 simp only [World.frozen?,hh];simp
theorem Own.ints {W:World} {base:Nat} {bs:List Nat} {e:TypeId} {v:Value} {xs:List Int} (h:Own W base bs e 1 v xs.length (xs.map (.int .i64))) (hn:xs.length <= 17592186044416) (hx:∀ x ∈ xs,In64 x):Ints W v xs:=Ints.of_own h.row hn hx
def Rise (L:List Int):Prop:=L.Pairwise (· < ·)
theorem Rise.lt {L:List Int} (h:Rise L) {i j:Nat} {x y:Int} (hi:L[i]? = some x) (hj:L[j]? = some y) (hij:i < j):x < y:=by
 obtain ⟨hi1,rfl⟩:=aE.1 hi
 obtain ⟨hj1,rfl⟩:=aE.1 hj
 exact (eE.1 h) i j hi1 hj1 hij
def aGY (L:List Int) (n r:Int):Prop:=(∃ j:Nat,L[j]? = some n/\r=j) \/ (n ∉ L/\r = -1)
theorem tT {w:World} {v:Value} {L:List Int} {x r:Int} (hv:Ints w v L) (hR:Rise L) (hr:aGY L x r) :
  Calls Tryz.prog 119 #[v,.int .i64 x] w fun e w'=>e = .returned (.int .i64 r)/\w=w':=by
 obtain ⟨a,c,b,o,rfl,hc,hm,ha,hx⟩:=hv.parts
 have hle:=hv.1.big
 obtain ⟨n,hn⟩ : ∃ n,n=L.length:=⟨_,rfl⟩
 rw [<-hn] at hc ha hx hle ⊢
 have HN:=h! hn
 have HA:=h! ha
 have HX:=h! hx
 have HR:=h! hR
 have HF:=h! hr
 clear hv hR hr hn ha hx
 go_enter Tryz.func119,Tryz.ntmps119
 go_wp2
 go_loopw [5,6] (fun a b wr => ∃ lo hi:Nat,lo <= hi/\hi <= n/\a = .int .i64 lo/\b = .int .i64 hi/\(∀ i y,i < lo -> L[i]? = some y -> y < x)/\(∀ i y,hi <= i -> L[i]? = some y -> x < y)/\wr=w) (fun a b _=>(intOf b).toNat - (intOf a).toNat)
 case atStart=>exact ⟨0,n,aP _,aF _,rfl,rfl,fun i y h=>by omega,fun i y h hy=>by have:=(aE.1 hy).1;have:=HN.out;omega,rfl⟩
 case round =>
  obtain ⟨lo,hi,hlh,hhn,rfl,rfl,hlow,hhigh,rfl⟩:=hrel
  have HLO:=h! hlow
  have HHI:=h! hhigh
  clear hlow hhigh
  by_cases hlt:lo < hi
  ·obtain ⟨m,hmm⟩ : ∃ m,m=(lo+hi) / 2:=⟨_,rfl⟩
   have hm1:lo <= m:=by omega
   have hm2:m < hi:=by omega
   have hmn:m < n:=by omega
   obtain ⟨rfl,hbw⟩:=HA.out (by omega)
   have h0:=HX.out m hmn
   have hmx:=eX L m (by have:=HN.out;omega)
   have HMX:=h! hmx
   have hq:((lo:Int)+(hi:Int)) / 2=(m:Int):=by omega
   have HMM:=h! hmm
   clear hmm hmx
   generalize L.getD m 0=y at *
   cases h1:(y == x)
   ·cases h2:decide (y < x)
    ·have H1:=h! h1
     have H2:=h! h2
     go_wp2
     go_roundw
     case rel =>
      refine ⟨lo,m,hm1,by omega,rfl,by first | rfl | rw [hq],HLO.out,fun i z hi hz => ?_,by trivial⟩
      have e1:=H1.out
      have e2:=H2.out
      simp at e1 e2
      by_cases he:i=m
      ·subst he
       have:z=y:=by have:=HMX.out;rw [hz] at this;cases this;rfl
       omega
      have:=HR.out.lt HMX.out hz (by omega)
      omega
     simp [intOf];omega
    have H2:=h! h2
    go_wp2
    go_roundw
    case rel =>
     refine ⟨m+1,hi,by omega,hhn,by first | go_num | (rw [hq];rfl),rfl,fun i z hi hz => ?_,HHI.out,by trivial⟩
     have e2:=H2.out
     simp at e2
     by_cases he:i=m
     ·subst he
      have:z=y:=by have:=HMX.out;rw [hz] at this;cases this;rfl
      omega
     have:=HR.out.lt hz HMX.out (by omega)
     omega
    simp [intOf];omega
   have H1:Hid (y=x):=h! (by simpa using h1)
   go_wp2
   go_ret
   refine ⟨?_,rfl⟩
   have e1:=HMX.out
   rw [H1.out] at e1
   rcases HF.out with ⟨j,hj,rfl⟩ | ⟨hno,_⟩
   ·have:j=m:=by
     by_cases hjm:j < m
     ·have:=HR.out.lt hj e1 hjm;omega
     ·by_cases hmj:m < j
      ·have:=HR.out.lt e1 hj hmj;omega
      omega
    rw [this];rfl
   exact absurd (aG e1) hno
  obtain rfl:lo=hi:=by omega
  go_wp2
  go_ret
  refine ⟨?_,rfl⟩
  rcases HF.out with ⟨j,hj,rfl⟩ | ⟨_,rfl⟩
  ·by_cases hjl:j < lo
   ·have:=HLO.out j x hjl hj;omega
   have:=HHI.out j x (by omega) hj;omega
  rfl
def iP (S:List Int) (k:Nat) (x:Int):List Int:=S.take k ++ x :: S.drop k
theorem lH (S:List Int) (k:Nat) (x:Int) (h:k <= S.length):(iP S k x).length=S.length+1:=by
 unfold iP;rw [aQ,aX,bB,dT];omega
theorem sE (S:List Int) (x:Int):iP S S.length x=S ++ [x]:=by unfold iP;simp
theorem oR (S:List Int) (k:Nat) (y x:Int) (h:k <= S.length):(iP S k y).set k x=iP S k x:=by
 unfold iP
 rw [List.set_append_right _ _ (by rw [aX];omega)]
 congr 1
 rw [aX,dH h,Nat.sub_self];rfl
theorem oS (S:List Int) (k:Nat) (y z:Int) (hz:S[k]? = some z):(iP S (k+1) y).set (k+1) z=iP S k z:=by
 have hk:=(aE.1 hz).1
 rw [oR _ _ _ _ (by omega)]
 unfold iP
 have h1:S.take (k+1)=S.take k ++ [z]:=eP S k z hz
 have h2:S.drop k=z :: S.drop (k+1):=by
  obtain ⟨_,rfl⟩:=aE.1 hz
  exact List.drop_eq_getElem_cons hk
 rw [h1,h2];simp
theorem sF (S:List Int) (k i:Nat) (y z:Int) (hi:i < k) (hz:S[i]? = some z):(iP S k y)[i]? = some z:=by
 have:=(aE.1 hz).1
 unfold iP
 rw [dE (by rw [aX];omega),bE,if_pos hi]
 exact hz
theorem aAN (S:List Int) (k:Nat) (x y:Int):y ∈ iP S k x ↔ y=x \/ y ∈ S:=by
 unfold iP
 rw [aO,bM]
 have h:=cV k S
 constructor
 ·rintro (h1 | h1 | h1)
  ·exact .inr (dO h1)
  ·exact .inl h1
  exact .inr (List.mem_of_mem_drop h1)
 rintro (h1 | h1)
 ·exact .inr (.inl h1)
 rw [<-h,aO] at h1
 rcases h1 with h1 | h1
 ·exact .inl h1
 exact .inr (.inr h1)
theorem xK {S:List Int} {k:Nat} {x:Int} (hS:Rise S) (hlo:∀ j y,j < k -> S[j]? = some y -> y < x) (hhi:∀ j y,k <= j -> S[j]? = some y -> x < y):Rise (iP S k x):=by
 unfold iP Rise
 have h1:(S.take k).Pairwise (· < ·):=List.Pairwise.sublist (List.take_sublist _ _) hS
 have h2:(S.drop k).Pairwise (· < ·):=List.Pairwise.sublist (List.drop_sublist _ _) hS
 rw [List.pairwise_append,List.pairwise_cons]
 have g1:∀ y ∈ S.take k,y < x:=fun y hy=>by
  obtain ⟨j,hj⟩:=bJ.1 hy
  rw [bE] at hj
  split at hj
  ·rename_i h;exact hlo j y h hj
  cases hj
 have g2:∀ y ∈ S.drop k,x < y:=fun y hy=>by
  obtain ⟨j,hj⟩:=bJ.1 hy
  rw [cH] at hj
  exact hhi (k+j) y (by omega) hj
 refine ⟨h1,⟨g2,h2⟩,fun a ha b hb => ?_⟩
 rcases bM.1 hb with rfl | hb
 ·exact g1 a ha
 have:=g1 a ha;have:=g2 b hb;omega
structure IdsS (np:Nat) (T:List (Int × Int)) (i:Nat) (S:List Int):Prop where
 rise:Rise S
 len:S.length=i
 mem:∀ y,y ∈ S ↔ y ∈ (T.take i).map (·.1)
 ok:∀ j p,T[j]? = some p -> j < i -> np <= j -> (np:Int) <= p.1/\p.1 < 1048576
 nodup:((T.take i).map (·.1)).Nodup
theorem IdsS.start (np:Nat) (T:List (Int × Int)):IdsS np T 0 []:=⟨List.Pairwise.nil,rfl,fun y=>by simp,fun j p _ h=>by omega,by simp⟩
theorem IdsS.step {np:Nat} {T:List (Int × Int)} {i:Nat} {S:List Int} (h:IdsS np T i S) {p:Int × Int} (hp:T[i]? = some p) (hok:np <= i -> (np:Int) <= p.1/\p.1 < 1048576) {k:Nat} (hk:k <= S.length)
  (hlo:∀ j y,j < k -> S[j]? = some y -> y < p.1) (hhi:∀ j y,k <= j -> S[j]? = some y -> p.1 < y):IdsS np T (i+1) (iP S k p.1):=by
 have ht:(T.take (i+1)).map (·.1)=(T.take i).map (·.1) ++ [p.1]:=by rw [eP T i p hp,bF];rfl
 have hno:p.1 ∉ S:=fun hm=>by
  obtain ⟨j,hj⟩:=bJ.1 hm
  by_cases hjk:j < k
  ·have:=hlo j _ hjk hj;omega
  have:=hhi j _ (by omega) hj;omega
 refine ⟨xK h.rise hlo hhi,by rw [lH _ _ _ hk,h.len],fun y => ?_,fun j q hq hj hn => ?_, ?_⟩
 ·rw [aAN,ht,aO,cZ,h.mem y];exact or_comm
 ·by_cases e:j=i
  ·subst e;rw [hp] at hq;cases hq;exact hok hn
  exact h.ok j q hq (by omega) hn
 ·rw [ht,cE]
  refine ⟨h.nodup,by simp,fun a ha b hb e => ?_⟩
  simp at hb
  subst hb
  subst e
  exact hno ((h.mem _).2 ha)
theorem kV (ps:List Int):(parT ps).length=ps.length:=by unfold parT;simp
theorem aAO {f:FuncD} {j:Nat} (hj:j < f.params.length):∃ t,(eR f)[j]? = some ((j:Int),t):=by
 refine ⟨f.params.getD j 0, ?_⟩
 unfold eR
 rw [dE (by rw [kV];exact hj)]
 unfold parT
 rw [aU,cN,eX f.params j hj]
 simp
theorem sG {f:FuncD} {j:Nat} (hj:f.params.length <= j):(eR f)[j]? = (oU f)[j - f.params.length]?:=by
 unfold eR
 rw [cI (by rw [kV];exact hj),kV]
theorem IdsS.done {f:FuncD} {S:List Int} (h:IdsS f.params.length (eR f) (eR f).length S):idsF f=true:=by
 unfold idsF idsB
 rw [aN,decide_eq_true_eq,aZ]
 refine ⟨by have:=h.nodup;rwa [cM] at this,fun p hp => ?_⟩
 obtain ⟨j,hj⟩:=bJ.1 hp
 have h1:(eR f)[f.params.length+j]? = some p:=by rw [sG (by omega)];rw [show f.params.length+j - f.params.length=j by omega];exact hj
 have h2:=h.ok (f.params.length+j) p h1 (aE.1 h1).1 (by omega)
 simp;omega
theorem IdsS.in64 {f:FuncD} {S:List Int} (h:IdsS f.params.length (eR f) (eR f).length S) (hn:f.params.length <= 4611686018427387904):∀ y ∈ S,In64 y:=by
 intro y hy
 have h1:=(h.mem y).1 hy
 rw [cM] at h1
 obtain ⟨p,hp,rfl⟩:=aY.1 h1
 obtain ⟨j,hj⟩:=bJ.1 hp
 by_cases hjp:j < f.params.length
 ·obtain ⟨t,ht⟩:=aAO hjp
  rw [hj] at ht;cases ht
  exact ⟨by simp only;omega,by simp only;omega⟩
 have h2:=h.ok j p hj (aE.1 hj).1 (by omega)
 exact ⟨by omega,by omega⟩
theorem aAP {f:FuncD} {i:Nat} {p:Int × Int} (hp:(eR f)[i]? = some p) (hi:f.params.length <= i) (hbad:¬ ((f.params.length:Int) <= p.1/\p.1 < 1048576)):idsF f=false:=by
 unfold idsF idsB
 rw [Bool.and_eq_false_iff]
 right
 rw [bZ]
 refine ⟨p,aG (by rw [<-sG hi];exact hp), ?_⟩
 simp;omega
theorem aAQ {f:FuncD} {i:Nat} {S:List Int} (h:IdsS f.params.length (eR f) i S) {p:Int × Int} (hp:(eR f)[i]? = some p) (hm:p.1 ∈ S):idsF f=false:=by
 unfold idsF idsB
 rw [Bool.and_eq_false_iff]
 left
 rw [decide_eq_false_iff_not]
 intro hnd
 have h1:((eR f).take (i+1)).map (·.1)=((eR f).take i).map (·.1) ++ [p.1]:=by rw [eP _ i p hp,bF];rfl
 have h2:(((eR f).take (i+1)).map (·.1)).Nodup:=List.Nodup.sublist (List.Sublist.map _ (List.take_sublist _ _)) hnd
 rw [h1,cE] at h2
 exact h2.2.2 p.1 ((h.mem _).1 hm) p.1 (by simp) rfl
theorem oT (T:List (Int × Int)) (i:Nat) (p:Int × Int) (h:T[i]? = some p):(kK T)[i * 2]? = some (.int .i64 p.1)/\(kK T)[i * 2+1]? = some (.int .i64 p.2):=by
 unfold kK
 induction T generalizing i with
 | nil=>cases h
 | cons q T ih =>
  cases i with
  | zero=>simp at h;subst h;simp
  | succ i =>
   simp at h
   obtain ⟨h1,h2⟩:=ih i h
   rw [cG,show (i+1) * 2=i * 2+2 by omega,show i * 2+2+1=(i * 2+1)+2 by omega]
   simp only [List.cons_append,dW,List.getElem?_cons_succ]
   exact ⟨h1,h2⟩
theorem sH (T:List UseD) (i:Nat) (u:UseD) (h:T[i]? = some u):(iW T)[i * 5]? = some (.int .i64 u.id)/\(iW T)[i * 5+1]? = some (.int .i64 u.typ)/\(iW T)[i * 5+2]? = some (.int .i64 u.blk)/\(iW T)[i * 5+3]? = some (.int .i64 u.pos)/\(iW T)[i * 5+4]? = some (.int .i64 u.src):=by
 unfold iW
 induction T generalizing i with
 | nil=>cases h
 | cons q T ih =>
  cases i with
  | zero=>simp at h;subst h;simp
  | succ i =>
   simp at h
   obtain ⟨h1,h2,h3,h4,h5⟩:=ih i h
   rw [cG,show (i+1) * 5=i * 5+5 by omega,show i * 5+5+1=(i * 5+1)+5 by omega,show i * 5+5+2=(i * 5+2)+5 by omega,show i * 5+5+3=(i * 5+3)+5 by omega,show i * 5+5+4=(i * 5+4)+5 by omega]
   simp only [List.cons_append,dW,List.getElem?_cons_succ]
   exact ⟨h1,h2,h3,h4,h5⟩
theorem aEP {W:World} {base:Nat} {e:TypeId} {size:Nat} {v:Value} {n:Nat} {cs:List Value} (h:W.ownsRow base e size v n cs) (hp:0 < n):∃ g cap A,v = .slice (some ⟨g,0,none⟩) n cap/\base <= g/\n <= cap/\cap <= 9223372036854775807/\Box W g A /\ ∀ (i:Nat) (x:Value),cs[i]? = some x -> A[i]? = some x:=by
 rcases h.2 with ⟨_,h2⟩ | ⟨g,cap,cur,hv,hb,hh,h1,h2,h3,h4⟩
 ·omega
 refine ⟨g,cap,cur,hv,hb,h1,by unfold maxLen at h2;omega,⟨(aS.1 hh).1,fun o => ?_,fun o => ?_⟩,fun j x hj => ?_⟩
 ·simp only [World.cell?,hh];simp
 ·simp only [World.frozen?,hh];simp
 rw [<-h4,bE] at hj
 split at hj
 ·simpa using hj
 cases hj
theorem tU {W:World} {base:Nat} {e:TypeId} {size:Nat} {v:Value} {n:Nat} {cs:List Value} (h:W.ownsRow base e size v n cs):∃ a c,v = .slice a n c:=by
 rcases h.2 with ⟨rfl,rfl⟩ | ⟨g,cap,cur,rfl,_⟩
 ·exact ⟨_,_,rfl⟩
 exact ⟨_,_,rfl⟩
def IdsR (f:FuncD) (w:World) (e:Ending) (w' : World):Prop:=Below w.heap.size w w' /\ ((idsF f=false/\e = .returned (.tuple #[.slice none 0 0,.bool false])) \/
 (idsF f=true /\ ∃ u S,e = .returned (.tuple #[u,.bool true])/\New 3 w w' u S/\IdsS f.params.length (eR f) (eR f).length S))
set_option maxRecDepth 100000 in
theorem xL {w:World} {v:Value} {f:FuncD} (hv:gG w v f) (hsm:(eR f).length <= 8191) (hpos:0 < (eR f).length):Calls Tryz.prog 41 #[v] w (IdsR f w):=by
 have HV:=h! hv
 obtain ⟨ap,cp,ab,cb,rfl,hp,ha,hc,hB⟩:=hv.form
 have hpl:=hp.1.big
 obtain ⟨np,hnp⟩ : ∃ np,np=f.params.length:=⟨_,rfl⟩
 obtain ⟨nb,hnb⟩ : ∃ nb,nb=f.blocks.length:=⟨_,rfl⟩
 obtain ⟨ar,har⟩ : ∃ ar,ar=f.arrays:=⟨_,rfl⟩
 obtain ⟨ce,hce⟩ : ∃ ce,ce=f.cells:=⟨_,rfl⟩
 obtain ⟨n,hn⟩ : ∃ n,n=(eR f).length:=⟨_,rfl⟩
 rw [<-hnp, <-hnb, <-har, <-hce] at HV ⊢
 rw [<-hn] at hsm hpos
 rw [<-hnp] at hpl
 have HNP:=h! hnp
 have HN:=h! hn
 have HSM:=h! hsm
 clear hp ha hc hB hv hnp hnb har hce hn
 go_enter Tryz.func41,Tryz.ntmps41
 go_upto_region 1 with (fail)
 have hA_:=(Below.refl w.heap.size w).alloc (aF _) (.cells #[.slice ap np cp,.int .i64 ar,.int .i64 ce,.slice ab nb cb] 25)
 have HW:=h! hA_
 clear hA_
 have B1:=h! (Box.new w #[.slice ap np cp,.int .i64 ar,.int .i64 ce,.slice ab nb cb] 25)
 generalize w.alloc (.cells #[.slice ap np cp,.int .i64 ar,.int .i64 ce,.slice ab nb cb] 25)=wv at *
 obtain ⟨lB1,cB1,fB1⟩:=B1.out
 go_wp2_with fail
 refine (oG (HV.out.below HW.out) (by rw [<-HN.out];have:=HSM.out;omega)).mono ?_
 rintro e w1 ⟨u,rfl,hu,hb1⟩
 rw [<-HN.out] at hu
 obtain ⟨g,capV,A,rfl,hg,hcV1,hcV2,hbox,hAx⟩:=aEP hu hpos
 have hlv:=lB1
 clear lB1 cB1 fB1
 replace B1:=h! (B1.out.later hb1)
 replace HW:=h! (HW.out.trans (hb1.mono HW.out.size))
 clear hb1
 obtain ⟨lB1,cB1,fB1⟩:=B1.out
 have BV:=h! hbox
 have HAX:=h! hAx
 have n1:g ≠ w.heap.size:=by omega
 have n2:w.heap.size ≠ g:=fun e=>n1 e.symm
 have hgw:w.heap.size < g:=by omega
 clear hu hbox hAx hlv hg
 go_wp2_with fail
 have HO:Hid (Own (w1.alloc (.cells #[] 3)) w.heap.size [g,w.heap.size] 3 1 (.slice (some ⟨w1.heap.size,0,none⟩) 0 0) 0 []):=h! (lQ HW.out.size (by intro b hb;have:=BV.out.lt;simp at hb;omega) 1)
 have hbA:=(Below.refl w1.heap.size w1).alloc (aF _) (.cells #[] 3)
 replace BV:=h! (BV.out.later hbA)
 clear lB1 cB1 fB1
 replace B1:=h! (B1.out.later hbA)
 replace HW:=h! (HW.out.trans (hbA.mono HW.out.size))
 clear hbA
 obtain ⟨lB1,cB1,fB1⟩:=B1.out
 generalize w1.alloc _=wa at *
 go_loopw [5,6] (fun u ii wr => ∃ (i:Nat) (S:List Int),i <= n/\ii = .int .i64 i/\Own wr w.heap.size [g,w.heap.size] 3 1 u S.length (S.map (.int .i64))/\IdsS np (eR f) i S/\Below w.heap.size w wr/\Box wr w.heap.size #[.slice ap np cp,.int .i64 ar,.int .i64 ce,.slice ab nb cb]/\Box wr g A) (fun _ ii _=>n - (intOf ii).toNat)
 case atStart=>exact ⟨0,[],aP _,rfl,HO.out,IdsS.start _ _,HW.out,B1.out,BV.out⟩
 obtain ⟨i,S,hi,rfl,hO,hIS,hW,hB1,hBV⟩:=hrel
 clear lB1 cB1 fB1
 obtain ⟨oa,oc,rfl⟩:=hO.form
 replace HO:=h! hO
 have HIS:=h! hIS
 replace HW:=h! hW
 replace B1:=h! hB1
 replace BV:=h! hBV
 have hSn:S.length <= 8191:=by have:=hIS.len;have:=HSM.out;omega
 clear hO hIS hW hB1 hBV
 generalize wr=wi at *
 obtain ⟨lB1,cB1,fB1⟩:=B1.out
 obtain ⟨lBV,cBV,fBV⟩:=BV.out
 by_cases hlti:i < n
 ·obtain ⟨p,hp⟩ : ∃ p,(eR f)[i]? = some p:=⟨_,aB (by have:=HN.out;omega)⟩
  obtain ⟨x,t⟩:=p
  have HPX:=h! hp
  have hx0:=HAX.out (i * 2) _ (oT _ _ _ hp).1
  clear hp
  simp only at hx0
  have hways:(((np:Int) <= i) /\ ¬ ((np:Int) <= x/\x < 1048576)) \/ ((i:Int) < np \/ ((np:Int) <= i/\(np:Int) <= x/\x < 1048576)):=by omega
  rcases hways with hbad | hgood
  ·have HBAD:=h! hbad
   obtain ⟨h1,h2⟩:=hbad
   have h3:x < (np:Int) \/ ((np:Int) <= x/\1048576 <= x):=by omega
   clear h2
   rcases h3 with h3 | ⟨h3,h4⟩
   all_goals
    go_wp2
    go_ret2
    exact ⟨HW.out,.inl ⟨aAP HPX.out (by have:=HBAD.out.1;have:=HNP.out;omega) (by rw [<-HNP.out];exact HBAD.out.2),rfl⟩⟩
  have HGD:Hid (np <= i -> (np:Int) <= x/\x < 1048576):=h! (by intro h;omega)
  rcases hgood with h1 | ⟨h1,h2,h3⟩
  all_goals
   go_wp2_with fail
   try clear h2
   try clear h3
   clear h1
   go_loopw [8] (fun aa wr => ∃ q:Nat,q <= S.length/\aa = .int .i64 q/\(∀ j y,q <= j -> S[j]? = some y -> x < y)/\wr=wi) (fun aa _=>(intOf aa).toNat)
   case atStart=>exact ⟨S.length,aF _,by go_num,fun j y h hy=>by have:=(aE.1 hy).1;omega,rfl⟩
   obtain ⟨q,hq,rfl,hhi,rfl⟩:=hrel
   have HHI:=h! hhi
   clear hhi
   by_cases hq0:q=0
   ·subst hq0
    have HST:Hid (IdsS np (eR f) (i+1) (iP S 0 x)):=h! (HIS.out.step HPX.out HGD.out (aP _) (fun j y h=>by omega) HHI.out)
    obtain ⟨sl,hsl⟩ : ∃ sl,sl=S.length:=⟨_,rfl⟩
    rw [<-hsl] at HO ⊢
    have HSL:=h! hsl
    have hslb:sl+1 <= 8192:=by have:=HIS.out.len;omega
    have hkS:0 <= sl:=by omega
    clear hsl
    go_wp2_with (at_builtin;refine fZ rfl _ _ 22 3 rfl mA rfl rfl (HO.out.alloc _) (Row.of_box (n:=1) (size:=1) (Box.new _ _ _) rfl (by omega)) (by simp [Value.oneCell']) (by unfold maxLen;omega) (by omega) (by simp;have:=HW.out.size;omega) (by intro b hb;simp at hb ⊢;omega) ?_;intro v2 w2 hO2 hBs2 hB2;obtain ⟨g2,cap2,rfl,hg2,hb2,hlt2,hc2,hm2,_,_⟩:=hO2.cells (by omega);have HO2:=h! hO2;have HBS2:=h! hBs2;have HB2:=h! hB2;clear hO2 hBs2 hB2)
    have HGN:Hid (g2 ≠ g/\g2 ≠ w.heap.size):=h! (by simpa using hg2)
    clear hg2
    clear lB1 cB1 fB1 lBV cBV fBV
    replace B1:=h! (HBS2.out _ _ (by simp) (B1.out.alloc _))
    replace BV:=h! (HBS2.out _ _ (by simp) (BV.out.alloc _))
    replace HW:=h! ((HW.out.alloc (by have:=HW.out.size;omega) _).trans HB2.out)
    replace HO:Hid (Own w2 w.heap.size [g,w.heap.size] 3 1 (.slice (some ⟨g2,0,none⟩) (sl+1) cap2) (sl+1) ((iP S sl 0).map (.int .i64))):=h! (by rw [HSL.out,sE,bF];have:=HO2.out;rw [HSL.out] at this;exact this)
    clear HB2 HBS2 HO2
    go_loopw [9] (fun kk wr => ∃ (k:Nat) (y:Int),0 <= k/\k <= sl/\kk = .int .i64 k/\Own wr w.heap.size [g,w.heap.size] 3 1 (.slice (some ⟨g2,0,none⟩) (sl+1) cap2) (sl+1) ((iP S k y).map (.int .i64))/\Below w.heap.size w wr/\Box wr w.heap.size #[.slice ap np cp,.int .i64 ar,.int .i64 ce,.slice ab nb cb]/\Box wr g A) (fun kk _=>(intOf kk).toNat)
    case atStart=>exact ⟨sl,0,hkS,aF _,by go_num,HO.out,HW.out,B1.out,BV.out⟩
    obtain ⟨k,y,hk1,hk2,rfl,hO,hW,hB1,hBV⟩:=hrel
    replace HO:=h! hO
    replace HW:=h! hW
    replace B1:=h! hB1
    replace BV:=h! hBV
    clear hW hB1 hBV
    obtain ⟨g3,cap3,hgv,_,_,hlt3,_,_,hcell,hfree⟩:=hO.cells (by omega)
    cases hgv
    clear hO
    have HCELL:=h! hcell
    clear hcell
    by_cases hlt:0 < k
    ·obtain ⟨k,rfl⟩ : ∃ k',k=k' + 1:=⟨k - 1,by omega⟩
     have hkx:=eX S k (by have:=HSL.out;omega)
     have hc:=HCELL.out k (.int .i64 (S.getD k 0)) (by rw [aU,sF S (k+1) k y _ (by omega) hkx];rfl)
     have hc1:=HCELL.out (k+1) (.int .i64 y) (by rw [aU];unfold iP;rw [cI (by rw [aX];have:=HSL.out;omega)];rw [aX,dH (by have:=HSL.out;omega),Nat.sub_self];rfl)
     have HSH:=h! (oS S k y _ hkx)
     clear hkx
     generalize S.getD k 0=z at *
     have hf1:=hfree (k+1)
     clear hfree
     go_wp2
     go_roundw
     case rel=>exact ⟨k,z,by omega,by omega,by go_num,by have h:=HO.out.put (i:=k+1) (by omega) (.int .i64 z);rw [<-List.map_set,HSH.out] at h;exact h,HW.out.setCell (by omega) _,B1.out.other _ (by have:=HGN.out;simp;omega),BV.out.other _ (by have:=HGN.out;simp;omega)⟩
     simp [intOf]
    obtain rfl:k=0:=by omega
    have hc1:=HCELL.out 0 (.int .i64 y) (by rw [aU];unfold iP;rw [cI (by rw [aX];have:=HSL.out;omega)];rw [aX,dH (by have:=HSL.out;omega),Nat.sub_self];rfl)
    have hf1:=hfree 0
    clear hfree
    have HSE:=h! (oR S 0 y x (by have:=HSL.out;omega))
    have HLEN:=h! (lH S 0 x (by have:=HSL.out;omega))
    go_wp2
    go_roundw
    case rel=>exact ⟨i+1,iP S 0 x,hlti,by go_num,by rw [HLEN.out, <-HSL.out];have h:=HO.out.put (i:=0) (by omega) (.int .i64 x);rw [<-List.map_set,HSE.out] at h;exact h,HST.out,HW.out.setCell (by omega) _,B1.out.other _ (by have:=HGN.out;simp;omega),BV.out.other _ (by have:=HGN.out;simp;omega)⟩
    simp [intOf];omega
   obtain ⟨k0,rfl⟩ : ∃ k0,q=k0+1:=⟨q - 1,by omega⟩
   obtain ⟨g4,cap4,hgv4,_,_,_,_,_,hcell4,_⟩:=HO.out.cells (by omega)
   have hkx4:=eX S k0 (by omega)
   have hc4:=hcell4 k0 (.int .i64 (S.getD k0 0)) (by rw [aU,hkx4];rfl)
   have HK4:=h! hkx4
   cases hgv4
   clear hcell4 hkx4 hq0
   generalize S.getD k0 0=y4 at *
   cases hgt:decide (x < y4)
   ·cases heq:(y4 == x)
    ·have HST:Hid (IdsS np (eR f) (i+1) (iP S (k0+1) x)):=h! (HIS.out.step HPX.out HGD.out hq (fun j y h hy=>by
      simp at hgt heq
      by_cases e:j=k0
      ·subst e;have:=HK4.out;rw [hy] at this;cases this;omega
      ·have:=HIS.out.rise.lt hy HK4.out (by omega);omega) HHI.out)
     obtain ⟨sl,hsl⟩ : ∃ sl,sl=S.length:=⟨_,rfl⟩
     rw [<-hsl] at HO ⊢
     have HSL:=h! hsl
     have hslb:sl+1 <= 8192:=by have:=HIS.out.len;omega
     have hkS:(k0+1) <= sl:=by omega
     clear hsl
     go_wp2_with (at_builtin;refine fZ rfl _ _ 22 3 rfl mA rfl rfl (HO.out.alloc _) (Row.of_box (n:=1) (size:=1) (Box.new _ _ _) rfl (by omega)) (by simp [Value.oneCell']) (by unfold maxLen;omega) (by omega) (by simp;have:=HW.out.size;omega) (by intro b hb;simp at hb ⊢;omega) ?_;intro v2 w2 hO2 hBs2 hB2;obtain ⟨g2,cap2,rfl,hg2,hb2,hlt2,hc2,hm2,_,_⟩:=hO2.cells (by omega);have HO2:=h! hO2;have HBS2:=h! hBs2;have HB2:=h! hB2;clear hO2 hBs2 hB2)
     have HGN:Hid (g2 ≠ g/\g2 ≠ w.heap.size):=h! (by simpa using hg2)
     clear hg2
     clear lB1 cB1 fB1 lBV cBV fBV
     replace B1:=h! (HBS2.out _ _ (by simp) (B1.out.alloc _))
     replace BV:=h! (HBS2.out _ _ (by simp) (BV.out.alloc _))
     replace HW:=h! ((HW.out.alloc (by have:=HW.out.size;omega) _).trans HB2.out)
     replace HO:Hid (Own w2 w.heap.size [g,w.heap.size] 3 1 (.slice (some ⟨g2,0,none⟩) (sl+1) cap2) (sl+1) ((iP S sl 0).map (.int .i64))):=h! (by rw [HSL.out,sE,bF];have:=HO2.out;rw [HSL.out] at this;exact this)
     clear HB2 HBS2 HO2
     go_loopw [9] (fun kk wr => ∃ (k:Nat) (y:Int),(k0+1) <= k/\k <= sl/\kk = .int .i64 k/\Own wr w.heap.size [g,w.heap.size] 3 1 (.slice (some ⟨g2,0,none⟩) (sl+1) cap2) (sl+1) ((iP S k y).map (.int .i64))/\Below w.heap.size w wr/\Box wr w.heap.size #[.slice ap np cp,.int .i64 ar,.int .i64 ce,.slice ab nb cb]/\Box wr g A) (fun kk _=>(intOf kk).toNat)
     case atStart=>exact ⟨sl,0,hkS,aF _,by go_num,HO.out,HW.out,B1.out,BV.out⟩
     case round =>
      obtain ⟨k,y,hk1,hk2,rfl,hO,hW,hB1,hBV⟩:=hrel
      replace HO:=h! hO
      replace HW:=h! hW
      replace B1:=h! hB1
      replace BV:=h! hBV
      clear hW hB1 hBV
      obtain ⟨g3,cap3,hgv,_,_,hlt3,_,_,hcell,hfree⟩:=hO.cells (by omega)
      cases hgv
      clear hO
      have HCELL:=h! hcell
      clear hcell
      by_cases hlt:(k0+1) < k
      ·obtain ⟨k,rfl⟩ : ∃ k',k=k' + 1:=⟨k - 1,by omega⟩
       have hkx:=eX S k (by have:=HSL.out;omega)
       have hc:=HCELL.out k (.int .i64 (S.getD k 0)) (by rw [aU,sF S (k+1) k y _ (by omega) hkx];rfl)
       have hc1:=HCELL.out (k+1) (.int .i64 y) (by rw [aU];unfold iP;rw [cI (by rw [aX];have:=HSL.out;omega)];rw [aX,dH (by have:=HSL.out;omega),Nat.sub_self];rfl)
       have HSH:=h! (oS S k y _ hkx)
       clear hkx
       generalize S.getD k 0=z at *
       have hf1:=hfree (k+1)
       clear hfree
       go_wp2
       go_roundw
       case rel=>exact ⟨k,z,by omega,by omega,by go_num,by have h:=HO.out.put (i:=k+1) (by omega) (.int .i64 z);rw [<-List.map_set,HSH.out] at h;exact h,HW.out.setCell (by omega) _,B1.out.other _ (by have:=HGN.out;simp;omega),BV.out.other _ (by have:=HGN.out;simp;omega)⟩
       simp [intOf]
      obtain rfl:k=(k0+1):=by omega
      have hc1:=HCELL.out (k0+1) (.int .i64 y) (by rw [aU];unfold iP;rw [cI (by rw [aX];have:=HSL.out;omega)];rw [aX,dH (by have:=HSL.out;omega),Nat.sub_self];rfl)
      have hf1:=hfree (k0+1)
      clear hfree
      have HSE:=h! (oR S (k0+1) y x (by have:=HSL.out;omega))
      have HLEN:=h! (lH S (k0+1) x (by have:=HSL.out;omega))
      go_wp2
      go_roundw
      case rel=>exact ⟨i+1,iP S (k0+1) x,hlti,by go_num,by rw [HLEN.out, <-HSL.out];have h:=HO.out.put (i:=(k0+1)) (by omega) (.int .i64 x);rw [<-List.map_set,HSE.out] at h;exact h,HST.out,HW.out.setCell (by omega) _,B1.out.other _ (by have:=HGN.out;simp;omega),BV.out.other _ (by have:=HGN.out;simp;omega)⟩
      simp [intOf];omega
    have HEQ:Hid (y4=x):=h! (by simpa using heq)
    go_wp2
    go_ret2
    exact ⟨HW.out,.inl ⟨aAQ (by rw [<-HNP.out];exact HIS.out) HPX.out (by have:=aG HK4.out;rw [HEQ.out] at this;exact this),rfl⟩⟩
   have HGT:=h! hgt
   go_wp2
   go_roundw
   case rel=>exact ⟨k0,by omega,by go_num,fun j y h hy=>by
     have e1:=HGT.out
     simp at e1
     by_cases e:j=k0
     ·subst e;have:=HK4.out;rw [hy] at this;cases this;omega
     exact HHI.out j y (by omega) hy,by trivial⟩
   simp [intOf]
 obtain rfl:i=n:=by omega
 have HID:Hid (IdsS f.params.length (eR f) (eR f).length S):=h! (by rw [<-HNP.out, <-HN.out];exact HIS.out)
 have HNW:Hid (New 3 w wi (.slice oa S.length oc) S):=h! ⟨HO.out.row,by omega,HID.out.in64 (by rw [<-HNP.out];omega)⟩
 go_wp2
 go_ret2
 exact ⟨HW.out,.inr ⟨HID.out.done,_,_,rfl,HNW.out,HID.out⟩⟩
end Go.Proofs.YtcmflfkpeodicaaGreat
