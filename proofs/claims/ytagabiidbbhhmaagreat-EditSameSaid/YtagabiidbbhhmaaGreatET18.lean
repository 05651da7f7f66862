/- Part 18. -/
import Derived.Test.YtagabiidbbhhmaaGreatET17
namespace Go.Proofs.YtagabiidbbhhmaaGreat
set_option maxHeartbeats 12800000
set_option linter.all false
set_option maxRecDepth 100000
open Go.RowKit
theorem Own.put{W:World}{base:Nat}{bs:List Nat}{e:TypeId}{g n cap:Nat}{cs:List Value}(h:Own W base bs e 1 (.slice (some ⟨g,0,none⟩) n cap) n cs){i:Nat}(hi:i<n)(u:Value):
  Own (W.setCell ⟨g,i,none⟩ u) base bs e 1 (.slice (some ⟨g,0,none⟩) n cap) n (cs.set i u):=by
 refine⟨⟨by rw[cQ];exact h.row.1, ?_⟩,h.free⟩;rcases h.row.2 with⟨h2,_⟩|⟨g',cap',aa,hv,hb,hh,h1,h2,h3,h4⟩
 ·cases h2
 ·cases hv;refine .inr ⟨g,cap,aa.setIfInBounds i u,rfl,hb, ?_,h1,h2,by simpa using h3, ?_⟩
  ·simp[World.setCell,dM,hh]
  rw[<-h4];simp only[Array.toList_setIfInBounds];rw[List.take_set]
theorem Own.cells{W:World}{base:Nat}{bs:List Nat}{e:TypeId}{v:Value}{n:Nat}{cs:List Value}(h:Own W base bs e 1 v n cs)(hn:0<n):∃g cap,v=.slice (some ⟨g,0,none⟩) n cap/\g∉bs/\base<=g/\g<W.heap.size/\n<=cap/\cap<=9223372036854775807/\(∀i x,cs[i]? =some x->W.cell? ⟨g,i,none⟩=some x)/\∀o,W.frozen? ⟨g,o,none⟩=false:=by
 rcases h.row.2 with⟨_,h2⟩|⟨g,cap,cur,hv,hb,hh,h1,h2,h3,h4⟩
 ·omega
 refine⟨g,cap,hv,h.free g (by rw[hv];rfl),hb,(aQ.1 hh).1,h1,by unfold maxLen at h2;omega,fun i x hx=> ?_,fun o=> ?_⟩
 ·simp only[World.cell?,hh];rw[<-h4,bF]at hx;split at hx
  ·simpa using hx
  cases hx
 simp only[World.frozen?,hh];simp
theorem Own.ints{W:World}{base:Nat}{bs:List Nat}{e:TypeId}{v:Value}{xs:List Int}(h:Own W base bs e 1 v xs.length (xs.map (.int .i64)))(hn:xs.length<=17592186044416)(hx:∀x∈xs,In64 x):Ints W v xs:=Ints.of_own h.row hn hx
def Rise(L:List Int):Prop:=L.Pairwise (· < ·)
theorem Rise.lt{L:List Int}(h:Rise L){i j:Nat}{x y:Int}(hi:L[i]? =some x)(hj:L[j]? =some y)(hij:i<j):x<y:=by obtain⟨aa,rfl⟩:=aD.1 hi;obtain⟨ab,rfl⟩:=aD.1 hj;exact(List.pairwise_iff_getElem.1 h) i j aa ab hij
def aK9(L:List Int)(n r:Int):Prop:=(∃j:Nat,L[j]? =some n/\r=j)\/(n∉L/\r= -1)
theorem xD{w:World}{v:Value}{L:List Int}{x r:Int}(hv:Ints w v L)(hR:Rise L)(hr:aK9 L x r):
  Calls Tryz.prog 70 #[v,.int .i64 x] w fun e w'=>e=.returned (.int .i64 r)/\w=w':=by
 obtain⟨a,c,b,o,rfl,hc,hm,ha,hx⟩:=hv.parts;have ai:=hv.1.big;obtain⟨n,hn⟩:∃n,n=L.length:=⟨_,rfl⟩;rw[<-hn]at hc ha hx ai⊢;have HN:=h! hn;have HA:=h! ha;have HX:=h! hx;have HR:=h! hR;have HF:=h! hr;clear hv hR hr hn ha hx;go_enter Tryz.func70,Tryz.ntmps70;go_wp2;go_loopw [5,6] (fun a b wr=>∃lo hi:Nat,lo<=hi/\hi<=n/\a=.int .i64 lo/\b=.int .i64 hi/\(∀i y,i<lo->L[i]? =some y->y<x)/\(∀i y,hi<=i->L[i]? =some y->x<y)/\wr=w) (fun a b _=>(intOf b).toNat - (intOf a).toNat)
 case atStart=>exact⟨0,n,aL _,aC _,rfl,rfl,fun i y h=>by omega,fun i y h hy=>by have:=(aD.1 hy).1;have:=HN.out;omega,rfl⟩
 case round=>
  obtain⟨lo,hi,hlh,aj,rfl,rfl,ac,aa,rfl⟩:=hrel;have ae:=h! ac;have ag:=h! aa;clear ac aa;by_cases hlt:lo<hi
  ·obtain⟨m,ad⟩:∃m,m=(lo+hi) / 2:=⟨_,rfl⟩;have ak:lo<=m:=by omega
   have hm2:m<hi:=by omega
   have ah:m<n:=by omega
   obtain⟨rfl,hbw⟩:=HA.out (by omega);have h0:=HX.out m ah;have af:=gF L m (by have:=HN.out;omega);have ab:=h! af;have hq:((lo:Int)+(hi:Int)) / 2=(m:Int):=by omega
   have HMM:=h! ad;clear ad af;generalize L.getD m 0=y at*
   cases h1:(y == x)
   ·cases h2:decide (y<x)
    ·have H1:=h! h1;have H2:=h! h2;go_wp2;go_roundw
     case rel=>
      refine⟨lo,m,ak,by omega,rfl,by first|rfl|rw[hq],ae.out,fun i z hi hz=> ?_,by trivial⟩;have e1:=H1.out;have e2:=H2.out;simp at e1 e2;by_cases he:i=m
      ·subst he;have:z=y:=by have:=ab.out;rw[hz]at this;cases this;rfl
       omega
      have:=HR.lt ab.out hz (by omega);omega
     simp[intOf];omega
    have H2:=h! h2;go_wp2;go_roundw
    case rel=>
     refine⟨m+1,hi,by omega,aj,by first|go_num|(rw[hq];rfl),rfl,fun i z hi hz=> ?_,ag.out,by trivial⟩;have e2:=H2.out;simp at e2;by_cases he:i=m
     ·subst he;have:z=y:=by have:=ab.out;rw[hz]at this;cases this;rfl
      omega
     have:=HR.lt hz ab.out (by omega);omega
    simp[intOf];omega
   have H1:Hid (y=x):=h! (by simpa using h1);go_wp2;go_ret;refine⟨?_,rfl⟩;have e1:=ab.out;rw[H1.out]at e1;rcases HF.out with⟨j,hj,rfl⟩|⟨al,_⟩
   ·have:j=m:=by
     by_cases hjm:j<m
     ·have:=HR.lt hj e1 hjm;omega
     ·by_cases hmj:m<j
      ·have:=HR.lt e1 hj hmj;omega
      omega
    rw[this];rfl
   exact absurd (aG e1) al
  obtain rfl:lo=hi:=by omega
  go_wp2;go_ret;refine⟨?_,rfl⟩;rcases HF.out with⟨j,hj,rfl⟩|⟨_,rfl⟩
  ·by_cases hjl:j<lo
   ·have:=ae.out j x hjl hj;omega
   have:=ag.out j x (by omega) hj;omega
  rfl
def kO(S:List Int)(k:Nat)(x:Int):List Int:=S.take k++x :: S.drop k
theorem nQ(S:List Int)(k:Nat)(x:Int)(h:k<=S.length):(kO S k x).length=S.length+1:=by unfold kO;rw[aO,bB,bI,dH];omega
theorem uZ(S:List Int)(x:Int):kO S S.length x=S++[x]:=by unfold kO;simp
theorem qZ(S:List Int)(k:Nat)(y x:Int)(h:k<=S.length):(kO S k y).set k x=kO S k x:=by unfold kO;rw[List.set_append_right _ _ (by rw[bB];omega)];congr 1;rw[bB,dZ h,eG];rfl
theorem rA(S:List Int)(k:Nat)(y z:Int)(hz:S[k]? =some z):(kO S (k+1) y).set (k+1) z=kO S k z:=by
 have hk:=(aD.1 hz).1;rw[qZ _ _ _ _ (by omega)];unfold kO;have h1:S.take (k+1)=S.take k++[z]:=fR S k z hz;have h2:S.drop k=z :: S.drop (k+1):=by obtain⟨_,rfl⟩:=aD.1 hz;exact List.drop_eq_getElem_cons hk
 rw[h1,h2];simp
theorem vA(S:List Int)(k i:Nat)(y z:Int)(hi:i<k)(hz:S[i]? =some z):(kO S k y)[i]? =some z:=by have:=(aD.1 hz).1;unfold kO;rw[dT (by rw[bB];omega),bF,if_pos hi];exact hz
theorem aC7(S:List Int)(k:Nat)(x y:Int):y∈kO S k x↔y=x\/y∈S:=by
 unfold kO;rw[aJ,bZ];have h:=dJ k S;constructor
 ·rintro(h1|h1|h1)
  ·exact .inr (dC h1)
  ·exact .inl h1
  exact .inr (List.mem_of_mem_drop h1)
 rintro(h1|h1)
 ·exact .inr (.inl h1)
 rw[<-h,aJ]at h1;rcases h1 with h1|h1
 ·exact .inl h1
 exact .inr (.inr h1)
theorem aAS{S:List Int}{k:Nat}{x:Int}(hS:Rise S)(hlo:∀j y,j<k->S[j]? =some y->y<x)(hhi:∀j y,k<=j->S[j]? =some y->x<y):Rise (kO S k x):=by
 unfold kO Rise;have h1:(S.take k).Pairwise (· < ·):=List.Pairwise.sublist (List.take_sublist _ _) hS;have h2:(S.drop k).Pairwise (· < ·):=List.Pairwise.sublist (List.drop_sublist _ _) hS;rw[List.pairwise_append,List.pairwise_cons];have g1:∀y∈S.take k,y<x:=fun y hy=>by
  obtain⟨j,hj⟩:=bS.1 hy;rw[bF]at hj;split at hj
  ·rename_i h;exact hlo j y h hj
  cases hj
 have g2:∀y∈S.drop k,x<y:=fun y hy=>by obtain⟨j,hj⟩:=bS.1 hy;rw[bU]at hj;exact hhi (k+j) y (by omega) hj
 refine⟨h1,⟨g2,h2⟩,fun a ha b hb=> ?_⟩;rcases bZ.1 hb with rfl|hb
 ·exact g1 a ha
 have:=g1 a ha;have:=g2 b hb;omega
structure IdsS(np:Nat)(T:List (Int×Int))(i:Nat)(S:List Int):Prop where
 rise:Rise S
 len:S.length=i
 mem:∀y,y∈S↔y∈(T.take i).map (·.1)
 ok:∀j p,T[j]? =some p->j<i->np<=j->(np:Int)<=p.1/\p.1<1048576
 nodup:((T.take i).map (·.1)).Nodup
theorem IdsS.start(np:Nat)(T:List (Int×Int)):IdsS np T 0 []:=⟨List.Pairwise.nil,rfl,fun y=>by simp,fun j p _ h=>by omega,by simp⟩
theorem IdsS.step{np:Nat}{T:List (Int×Int)}{i:Nat}{S:List Int}(h:IdsS np T i S){p:Int×Int}(hp:T[i]? =some p)(hok:np<=i->(np:Int)<=p.1/\p.1<1048576){k:Nat}(hk:k<=S.length)
  (hlo:∀j y,j<k->S[j]? =some y->y<p.1) (hhi:∀j y,k<=j->S[j]? =some y->p.1<y):IdsS np T (i+1) (kO S k p.1):=by
 have ht:(T.take (i+1)).map (·.1)=(T.take i).map (·.1)++[p.1]:=by rw[fR T i p hp,bG];rfl
 have aa:p.1∉S:=fun hm=>by
  obtain⟨j,hj⟩:=bS.1 hm;by_cases hjk:j<k
  ·have:=hlo j _ hjk hj;omega
  have:=hhi j _ (by omega) hj;omega
 refine⟨aAS h.rise hlo hhi,by rw[nQ _ _ _ hk,h.len],fun y=> ?_,fun j q hq hj hn=> ?_, ?_⟩
 ·rw[aC7,ht,aJ,cC,h.mem y];exact or_comm
 ·by_cases e:j=i
  ·subst e;rw[hp]at hq;cases hq;exact hok hn
  exact h.ok j q hq (by omega) hn
 ·rw[ht,cN];refine⟨h.nodup,by simp,fun a ha b hb e=> ?_⟩;simp at hb;subst hb;subst e;exact aa ((h.mem _).2 ha)
theorem nC(ps:List Int):(parT ps).length=ps.length:=by unfold parT;simp
theorem aC8{f:FuncD}{j:Nat}(hj:j<f.params.length):∃t,(fX f)[j]? =some ((j:Int),t):=by refine⟨f.params.getD j 0, ?_⟩;unfold fX;rw[dT (by rw[nC];exact hj)];unfold parT;rw[aM,dG,gF f.params j hj];simp
theorem vB{f:FuncD}{j:Nat}(hj:f.params.length<=j):(fX f)[j]? =(mX f)[j - f.params.length]?:=by unfold fX;rw[cU (by rw[nC];exact hj),nC]
theorem IdsS.done{f:FuncD}{S:List Int}(h:IdsS f.params.length (fX f) (fX f).length S):idsF f=true:=by
 unfold idsF idsB;rw[aK,decide_eq_true_eq,aY];refine⟨by have:=h.nodup;rwa[cO]at this,fun p hp=> ?_⟩;obtain⟨j,hj⟩:=bS.1 hp;have h1:(fX f)[f.params.length+j]? =some p:=by rw[vB (by omega)];rw[show f.params.length+j - f.params.length=j by omega];exact hj
 have h2:=h.ok (f.params.length+j) p h1 (aD.1 h1).1 (by omega);simp;omega
theorem IdsS.in64{f:FuncD}{S:List Int}(h:IdsS f.params.length (fX f) (fX f).length S)(hn:f.params.length<=4611686018427387904):∀y∈S,In64 y:=by
 intro y hy;have h1:=(h.mem y).1 hy;rw[cO]at h1;obtain⟨p,hp,rfl⟩:=aN.1 h1;obtain⟨j,hj⟩:=bS.1 hp;by_cases hjp:j<f.params.length
 ·obtain⟨t,ht⟩:=aC8 hjp;rw[hj]at ht;cases ht;exact⟨by simp only;omega,by simp only;omega⟩
 have h2:=h.ok j p hj (aD.1 hj).1 (by omega);exact⟨by omega,by omega⟩
theorem aC9{f:FuncD}{i:Nat}{p:Int×Int}(hp:(fX f)[i]? =some p)(hi:f.params.length<=i)(hbad:¬((f.params.length:Int)<=p.1/\p.1<1048576)):idsF f=false:=by unfold idsF idsB;rw[Bool.and_eq_false_iff];right;rw[cW];refine⟨p,aG (by rw[<-vB hi];exact hp), ?_⟩;simp;omega
theorem aDA{f:FuncD}{i:Nat}{S:List Int}(h:IdsS f.params.length (fX f) i S){p:Int×Int}(hp:(fX f)[i]? =some p)(hm:p.1∈S):idsF f=false:=by
 unfold idsF idsB;rw[Bool.and_eq_false_iff];left;rw[decide_eq_false_iff_not];intro aa;have h1:((fX f).take (i+1)).map (·.1)=((fX f).take i).map (·.1)++[p.1]:=by rw[fR _ i p hp,bG];rfl
 have h2:(((fX f).take (i+1)).map (·.1)).Nodup:=List.Nodup.sublist (List.Sublist.map _ (List.take_sublist _ _)) aa;rw[h1,cN]at h2;exact h2.2.2 p.1 ((h.mem _).1 hm) p.1 (by simp) rfl
theorem rB(T:List (Int×Int))(i:Nat)(p:Int×Int)(h:T[i]? =some p):(mT T)[i*2]? =some (.int .i64 p.1)/\(mT T)[i*2+1]? =some (.int .i64 p.2):=by
 unfold mT;induction T generalizing i with
 | nil=>cases h
 | cons q T ih=>
  cases i with
  | zero=>simp at h;subst h;simp
  | succ i=>
   simp at h
   obtain⟨h1,h2⟩:=ih i h
   rw[cK,show(i+1)*2=i*2+2 by omega,show i*2+2+1=(i*2+1)+2 by omega]
   simp only[List.cons_append,eV,List.getElem?_cons_succ]
   exact⟨h1,h2⟩
theorem vC(T:List UseD)(i:Nat)(u:UseD)(h:T[i]? =some u):(kU T)[i*5]? =some (.int .i64 u.id)/\(kU T)[i*5+1]? =some (.int .i64 u.typ)/\(kU T)[i*5+2]? =some (.int .i64 u.blk)/\(kU T)[i*5+3]? =some (.int .i64 u.pos)/\(kU T)[i*5+4]? =some (.int .i64 u.src):=by
 unfold kU;induction T generalizing i with
 | nil=>cases h
 | cons q T ih=>
  cases i with
  | zero=>simp at h;subst h;simp
  | succ i=>
   simp at h
   obtain⟨h1,h2,h3,h4,h5⟩:=ih i h
   rw[cK,show(i+1)*5=i*5+5 by omega,show i*5+5+1=(i*5+1)+5 by omega,show i*5+5+2=(i*5+2)+5 by omega,show i*5+5+3=(i*5+3)+5 by omega,show i*5+5+4=(i*5+4)+5 by omega]
   simp only[List.cons_append,eV,List.getElem?_cons_succ]
   exact⟨h1,h2,h3,h4,h5⟩
theorem aI3{W:World}{base:Nat}{e:TypeId}{size:Nat}{v:Value}{n:Nat}{cs:List Value}(h:W.ownsRow base e size v n cs)(hp:0<n):∃g cap A,v=.slice (some ⟨g,0,none⟩) n cap/\base<=g/\n<=cap/\cap<=9223372036854775807/\Box W g A/\∀(i:Nat) (x:Value),cs[i]? =some x->A[i]? =some x:=by
 rcases h.2 with⟨_,h2⟩|⟨g,cap,aa,hv,hb,hh,h1,h2,h3,h4⟩
 ·omega
 refine⟨g,cap,aa,hv,hb,h1,by unfold maxLen at h2;omega,⟨(aQ.1 hh).1,fun o=> ?_,fun o=> ?_⟩,fun j x hj=> ?_⟩
 ·simp only[World.cell?,hh];simp
 ·simp only[World.frozen?,hh];simp
 rw[<-h4,bF]at hj;split at hj
 ·simpa using hj
 cases hj
theorem xE{W:World}{base:Nat}{e:TypeId}{size:Nat}{v:Value}{n:Nat}{cs:List Value}(h:W.ownsRow base e size v n cs):∃a c,v=.slice a n c:=by
 rcases h.2 with⟨rfl,rfl⟩|⟨g,cap,cur,rfl,_⟩
 ·exact⟨_,_,rfl⟩
 exact⟨_,_,rfl⟩
def IdsR(f:FuncD)(w:World)(e:Ending)(w':World):Prop:=Below w.heap.size w w'/\((idsF f=false/\e=.returned (.tuple #[.slice none 0 0,.bool false]))\/
 (idsF f=true/\∃u S,e=.returned (.tuple #[u,.bool true])/\New 3 w w' u S/\IdsS f.params.length (fX f) (fX f).length S))
theorem aAT{w:World}{v:Value}{f:FuncD}(hv:gS w v f)(hsm:(fX f).length<=8191)(hpos:0<(fX f).length):Calls Tryz.prog 19 #[v] w (IdsR f w):=by
 have HV:=h! hv;obtain⟨ap,cp,ab,cb,rfl,hp,ha,hc,hB⟩:=hv.form;have cB:=hp.1.big;obtain⟨np,bn⟩:∃np,np=f.params.length:=⟨_,rfl⟩;obtain⟨nb,co⟩:∃nb,nb=f.blocks.length:=⟨_,rfl⟩;obtain⟨ar,cs⟩:∃ar,ar=f.arrays:=⟨_,rfl⟩;obtain⟨ce,cm⟩:∃ce,ce=f.cells:=⟨_,rfl⟩;obtain⟨n,hn⟩:∃n,n=(fX f).length:=⟨_,rfl⟩;rw[<-bn,<-co,<-cs,<-cm]at HV⊢;rw[<-hn]at hsm hpos;rw[<-bn]at cB;have bf:=h! bn;have HN:=h! hn;have ck:=h! hsm;clear hp ha hc hB hv bn co cs cm hn;go_enter Tryz.func19,Tryz.ntmps19;go_upto_region 1 with(fail);have cv:=(Below.refl w.heap.size w).alloc (aC _) (.cells #[.slice ap np cp,.int .i64 ar,.int .i64 ce,.slice ab nb cb] 25);have HW:=h! cv;clear cv;have B1:=h! (Box.new w #[.slice ap np cp,.int .i64 ar,.int .i64 ce,.slice ab nb cb] 25);generalize w.alloc (.cells #[.slice ap np cp,.int .i64 ar,.int .i64 ce,.slice ab nb cb] 25)=wv at*;obtain⟨al,am,aq⟩:=B1.out;go_wp2_with fail;refine(qX (HV.below HW.out) (by rw[<-HN.out];have:=ck.out;omega)).mono ?_;rintro e w1 ⟨u,rfl,hu,bw⟩;rw[<-HN.out]at hu;obtain⟨g,capV,A,rfl,hg,hcV1,hcV2,bc,cj⟩:=aI3 hu hpos;have dc:=al;clear al am aq;replace B1:=h! (B1.later bw);replace HW:=w! HW bw;clear bw;obtain⟨al,am,aq⟩:=B1.out;have BV:=h! bc;have cG:=h! cj;have n1:g≠w.heap.size:=by omega
 have n2:w.heap.size≠g:=fun e=>n1 e.symm;have hgw:w.heap.size<g:=by omega
 clear hu bc cj dc hg;go_wp2_with fail;have HO:Hid (Own (w1.alloc (.cells #[] 3)) w.heap.size [g,w.heap.size] 3 1 (.slice (some ⟨w1.heap.size,0,none⟩) 0 0) 0 []):=h! (oN HW.size (by intro b hb;have:=BV.lt;simp at hb;omega) 1);have bm:=(Below.refl w1.heap.size w1).alloc (aC _) (.cells #[] 3);replace BV:=h! (BV.later bm);clear al am aq;replace B1:=h! (B1.later bm);replace HW:=w! HW bm;clear bm;obtain⟨al,am,aq⟩:=B1.out;generalize w1.alloc _=wa at*;go_loopw [5,6] (fun u ii wr=>∃(i:Nat) (S:List Int),i<=n/\ii=.int .i64 i/\Own wr w.heap.size [g,w.heap.size] 3 1 u S.length (S.map (.int .i64))/\IdsS np (fX f) i S/\Below w.heap.size w wr/\Box wr w.heap.size #[.slice ap np cp,.int .i64 ar,.int .i64 ce,.slice ab nb cb]/\Box wr g A) (fun _ ii _=>n - (intOf ii).toNat)
 case atStart=>exact⟨0,[],aL _,rfl,HO.out,IdsS.start _ _,HW.out,B1.out,BV.out⟩
 obtain⟨i,S,hi,rfl,hO,cg,hW,an,ao⟩:=hrel;clear al am aq;obtain⟨oa,oc,rfl⟩:=hO.form;replace HO:=h! hO;have ba:=h! cg;replace HW:=h! hW;replace B1:=h! an;replace BV:=h! ao;have hSn:S.length<=8191:=by have:=cg.len;have:=ck.out;omega
 clear hO cg hW an ao;generalize wr=wi at*;obtain⟨al,am,aq⟩:=B1.out;obtain⟨cq,ct,cn⟩:=BV.out;by_cases hlti:i<n
 ·obtain⟨p,hp⟩:∃p,(fX f)[i]? =some p:=⟨_,aA (by have:=HN.out;omega)⟩;obtain⟨x,t⟩:=p;have bo:=h! hp;have cF:=cG.out (i*2) _ (rB _ _ _ hp).1;clear hp;simp only at cF;have bh:(((np:Int)<=i)/\¬((np:Int)<=x/\x<1048576))\/((i:Int)<np\/((np:Int)<=i/\(np:Int)<=x/\x<1048576)):=by omega
  rcases bh with bd|bk
  ·have bj:=h! bd;obtain⟨h1,h2⟩:=bd;have h3:x<(np:Int)\/((np:Int)<=x/\1048576<=x):=by omega
   clear h2;rcases h3 with h3|⟨h3,h4⟩;all_goals
    go_wp2;go_ret2;exact⟨HW.out,.inl ⟨aC9 bo.out (by have:=bj.1;have:=bf.out;omega) (by rw[<-bf.out];exact bj.2),rfl⟩⟩
  have cr:Hid (np<=i->(np:Int)<=x/\x<1048576):=h! (by intro h;omega);rcases bk with h1|⟨h1,h2,h3⟩;all_goals
   go_wp2_with fail;try clear h2
   try clear h3
   clear h1;go_loopw [8] (fun aa wr=>∃q:Nat,q<=S.length/\aa=.int .i64 q/\(∀j y,q<=j->S[j]? =some y->x<y)/\wr=wi) (fun aa _=>(intOf aa).toNat)
   case atStart=>exact⟨S.length,aC _,by go_num,fun j y h hy=>by have:=(aD.1 hy).1;omega,rfl⟩
   obtain⟨q,hq,rfl,cl,rfl⟩:=hrel;have bx:=h! cl;clear cl;by_cases hq0:q=0
   ·subst hq0;have ca:Hid (IdsS np (fX f) (i+1) (kO S 0 x)):=h! (ba.step bo.out cr.out (aL _) (fun j y h=>by omega) bx.out);obtain⟨sl,bb⟩:∃sl,sl=S.length:=⟨_,rfl⟩;rw[<-bb]at HO⊢;have ae:=h! bb;have ci:sl+1<=8192:=by have:=ba.len;omega
    have cd:0<=sl:=by omega
    clear bb;go_wp2_with (at_builtin;refine iL rfl _ _ 22 3 rfl oW rfl rfl (HO.alloc _) (Row.of_box (n:=1) (size:=1) (Box.new _ _ _) rfl (by omega)) (by simp[Value.oneCell']) (by unfold maxLen;omega) (by omega) (by simp;have:=HW.size;omega) (by intro b hb;simp at hb⊢;omega) ?_;intro v2 w2 ax ai bl;obtain⟨g2,aj,rfl,be,cz,bv,db,cy,_,_⟩:=ax.cells (by omega);have bg:=h! ax;have ag:=h! ai;have bi:=h! bl;clear ax ai bl);have ak:Hid (g2≠g/\g2≠w.heap.size):=h! (by simpa using be);clear be;clear al am aq cq ct cn;replace B1:=h! (ag _ _ (by simp) (B1.alloc _));replace BV:=h! (ag _ _ (by simp) (BV.alloc _));replace HW:=h! ((HW.alloc (by have:=HW.size;omega) _).trans bi.out);replace HO:Hid (Own w2 w.heap.size [g,w.heap.size] 3 1 (.slice (some ⟨g2,0,none⟩) (sl+1) aj) (sl+1) ((kO S sl 0).map (.int .i64))):=h! (by rw[ae.out,uZ,bG];have:=bg.out;rw[ae.out]at this;exact this);clear bi ag bg;go_loopw [9] (fun kk wr=>∃(k:Nat) (y:Int),0<=k/\k<=sl/\kk=.int .i64 k/\Own wr w.heap.size [g,w.heap.size] 3 1 (.slice (some ⟨g2,0,none⟩) (sl+1) aj) (sl+1) ((kO S k y).map (.int .i64))/\Below w.heap.size w wr/\Box wr w.heap.size #[.slice ap np cp,.int .i64 ar,.int .i64 ce,.slice ab nb cb]/\Box wr g A) (fun kk _=>(intOf kk).toNat)
    case atStart=>exact⟨sl,0,cd,aC _,by go_num,HO.out,HW.out,B1.out,BV.out⟩
    obtain⟨k,y,cL,cM,rfl,hO,hW,an,ao⟩:=hrel;replace HO:=h! hO;replace HW:=h! hW;replace B1:=h! an;replace BV:=h! ao;clear hW an ao;obtain⟨g3,br,cf,_,_,bO,_,_,af,ac⟩:=hO.cells (by omega)
    cases cf;clear hO;have ad:=h! af;clear af;by_cases hlt:0<k
    ·obtain⟨k,rfl⟩:∃k',k=k'+1:=⟨k - 1,by omega⟩;have aw:=gF S k (by have:=ae.out;omega);have hc:=ad.out k (.int .i64 (S.getD k 0)) (by rw[aM,vA S (k+1) k y _ (by omega) aw];rfl);have ch:=ad.out (k+1) (.int .i64 y) (by rw[aM];unfold kO;rw[cU (by rw[bB];have:=ae.out;omega)];rw[bB,dZ (by have:=ae.out;omega),eG];rfl);have bz:=h! (rA S k y _ aw);clear aw;generalize S.getD k 0=z at*;have bs:=ac (k+1);clear ac;go_wp2;go_roundw
     case rel=>exact⟨k,z,by omega,by omega,by go_num,by have h:=HO.put (i:=k+1) (by omega) (.int .i64 z);rw[<-List.map_set,bz.out]at h;exact h,HW.setCell (by omega) _,B1.other _ (by have:=ak.out;simp;omega),BV.other _ (by have:=ak.out;simp;omega)⟩
     simp[intOf]
    obtain rfl:k=0:=by omega
    have ch:=ad.out 0 (.int .i64 y) (by rw[aM];unfold kO;rw[cU (by rw[bB];have:=ae.out;omega)];rw[bB,dZ (by have:=ae.out;omega),eG];rfl);have bs:=ac 0;clear ac;have bq:=h! (qZ S 0 y x (by have:=ae.out;omega));have az:=h! (nQ S 0 x (by have:=ae.out;omega));go_wp2;go_roundw
    case rel=>exact⟨i+1,kO S 0 x,hlti,by go_num,by rw[az.out,<-ae.out];have h:=HO.put (i:=0) (by omega) (.int .i64 x);rw[<-List.map_set,bq.out]at h;exact h,ca.out,HW.setCell (by omega) _,B1.other _ (by have:=ak.out;simp;omega),BV.other _ (by have:=ak.out;simp;omega)⟩
    simp[intOf];omega
   obtain⟨k0,rfl⟩:∃k0,q=k0+1:=⟨q - 1,by omega⟩;obtain⟨g4,cap4,cc,_,_,_,_,_,ah,_⟩:=HO.cells (by omega);have ay:=gF S k0 (by omega);have hc4:=ah k0 (.int .i64 (S.getD k0 0)) (by rw[aM,ay];rfl);have bp:=h! ay
   cases cc;clear ah ay hq0;generalize S.getD k0 0=y4 at*
   cases hgt:decide (x<y4)
   ·cases heq:(y4 == x)
    ·have ca:Hid (IdsS np (fX f) (i+1) (kO S (k0+1) x)):=h! (ba.step bo.out cr.out hq (fun j y h hy=>by
      simp at hgt heq;by_cases e:j=k0
      ·subst e;have:=bp.out;rw[hy]at this;cases this;omega
      ·have:=ba.rise.lt hy bp.out (by omega);omega) bx.out)
     obtain⟨sl,bb⟩:∃sl,sl=S.length:=⟨_,rfl⟩;rw[<-bb]at HO⊢;have ae:=h! bb;have ci:sl+1<=8192:=by have:=ba.len;omega
     have cd:(k0+1)<=sl:=by omega
     clear bb;go_wp2_with (at_builtin;refine iL rfl _ _ 22 3 rfl oW rfl rfl (HO.alloc _) (Row.of_box (n:=1) (size:=1) (Box.new _ _ _) rfl (by omega)) (by simp[Value.oneCell']) (by unfold maxLen;omega) (by omega) (by simp;have:=HW.size;omega) (by intro b hb;simp at hb⊢;omega) ?_;intro v2 w2 ax ai bl;obtain⟨g2,aj,rfl,be,cz,bv,db,cy,_,_⟩:=ax.cells (by omega);have bg:=h! ax;have ag:=h! ai;have bi:=h! bl;clear ax ai bl);have ak:Hid (g2≠g/\g2≠w.heap.size):=h! (by simpa using be);clear be;clear al am aq cq ct cn;replace B1:=h! (ag _ _ (by simp) (B1.alloc _));replace BV:=h! (ag _ _ (by simp) (BV.alloc _));replace HW:=h! ((HW.alloc (by have:=HW.size;omega) _).trans bi.out);replace HO:Hid (Own w2 w.heap.size [g,w.heap.size] 3 1 (.slice (some ⟨g2,0,none⟩) (sl+1) aj) (sl+1) ((kO S sl 0).map (.int .i64))):=h! (by rw[ae.out,uZ,bG];have:=bg.out;rw[ae.out]at this;exact this);clear bi ag bg;go_loopw [9] (fun kk wr=>∃(k:Nat) (y:Int),(k0+1)<=k/\k<=sl/\kk=.int .i64 k/\Own wr w.heap.size [g,w.heap.size] 3 1 (.slice (some ⟨g2,0,none⟩) (sl+1) aj) (sl+1) ((kO S k y).map (.int .i64))/\Below w.heap.size w wr/\Box wr w.heap.size #[.slice ap np cp,.int .i64 ar,.int .i64 ce,.slice ab nb cb]/\Box wr g A) (fun kk _=>(intOf kk).toNat)
     case atStart=>exact⟨sl,0,cd,aC _,by go_num,HO.out,HW.out,B1.out,BV.out⟩
     case round=>
      obtain⟨k,y,cL,cM,rfl,hO,hW,an,ao⟩:=hrel;replace HO:=h! hO;replace HW:=h! hW;replace B1:=h! an;replace BV:=h! ao;clear hW an ao;obtain⟨g3,br,cf,_,_,bO,_,_,af,ac⟩:=hO.cells (by omega)
      cases cf;clear hO;have ad:=h! af;clear af;by_cases hlt:(k0+1)<k
      ·obtain⟨k,rfl⟩:∃k',k=k'+1:=⟨k - 1,by omega⟩;have aw:=gF S k (by have:=ae.out;omega);have hc:=ad.out k (.int .i64 (S.getD k 0)) (by rw[aM,vA S (k+1) k y _ (by omega) aw];rfl);have ch:=ad.out (k+1) (.int .i64 y) (by rw[aM];unfold kO;rw[cU (by rw[bB];have:=ae.out;omega)];rw[bB,dZ (by have:=ae.out;omega),eG];rfl);have bz:=h! (rA S k y _ aw);clear aw;generalize S.getD k 0=z at*;have bs:=ac (k+1);clear ac;go_wp2;go_roundw
       case rel=>exact⟨k,z,by omega,by omega,by go_num,by have h:=HO.put (i:=k+1) (by omega) (.int .i64 z);rw[<-List.map_set,bz.out]at h;exact h,HW.setCell (by omega) _,B1.other _ (by have:=ak.out;simp;omega),BV.other _ (by have:=ak.out;simp;omega)⟩
       simp[intOf]
      obtain rfl:k=(k0+1):=by omega
      have ch:=ad.out (k0+1) (.int .i64 y) (by rw[aM];unfold kO;rw[cU (by rw[bB];have:=ae.out;omega)];rw[bB,dZ (by have:=ae.out;omega),eG];rfl);have bs:=ac (k0+1);clear ac;have bq:=h! (qZ S (k0+1) y x (by have:=ae.out;omega));have az:=h! (nQ S (k0+1) x (by have:=ae.out;omega));go_wp2;go_roundw
      case rel=>exact⟨i+1,kO S (k0+1) x,hlti,by go_num,by rw[az.out,<-ae.out];have h:=HO.put (i:=(k0+1)) (by omega) (.int .i64 x);rw[<-List.map_set,bq.out]at h;exact h,ca.out,HW.setCell (by omega) _,B1.other _ (by have:=ak.out;simp;omega),BV.other _ (by have:=ak.out;simp;omega)⟩
      simp[intOf];omega
    have cw:Hid (y4=x):=h! (by simpa using heq);go_wp2;go_ret2;exact⟨HW.out,.inl ⟨aDA (by rw[<-bf.out];exact ba) bo.out (by have:=aG bp.out;rw[cw.out]at this;exact this),rfl⟩⟩
   have cx:=h! hgt;go_wp2;go_roundw
   case rel=>exact⟨k0,by omega,by go_num,fun j y h hy=>by
     have e1:=cx.out;simp at e1;by_cases e:j=k0
     ·subst e;have:=bp.out;rw[hy]at this;cases this;omega
     exact bx j y (by omega) hy,by trivial⟩
   simp[intOf]
 obtain rfl:i=n:=by omega
 have bt:Hid (IdsS f.params.length (fX f) (fX f).length S):=h! (by rw[<-bf.out,<-HN.out];exact ba);have da:Hid (New 3 w wi (.slice oa S.length oc) S):=h! ⟨HO.row,by omega,bt.in64 (by rw[<-bf.out];omega)⟩;go_wp2;go_ret2;exact⟨HW.out,.inr ⟨bt.done,_,_,rfl,da.out,bt.out⟩⟩
end Go.Proofs.YtagabiidbbhhmaaGreat
