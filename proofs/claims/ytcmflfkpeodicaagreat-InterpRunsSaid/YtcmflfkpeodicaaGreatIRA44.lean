/- Part 44. -/
import Derived.Test.YtcmflfkpeodicaaGreatIRA43
namespace Go.Proofs.YtcmflfkpeodicaaGreat
set_option maxHeartbeats 6400000
set_option linter.all false
open Go.RowKit
theorem aCP {f:FuncD} {t p:Nat} (hp:p < f.blocks.length) (h:t ∈ toB f p):p ∈ fO f f.blocks.length 0 t:=by
 rw [gJ,List.mem_filter]
 exact ⟨cO.2 hp,dX.2 h⟩
def In (f:FuncD) (src:Int) (a:Nat):Prop:=(src = -1/\a=0) \/ ∃ b:Nat,src=b/\b < f.blocks.length/\a ∈ toB f b
theorem In.phis {f:FuncD} (hc:eL f=0) (hF:fM f 0 0) {src:Int} {a:Nat} (h:In f src a) {x:BlockD} (hx:f.blocks[a]? = some x):∀ p ∈ x.phis,src ∈ p.src:=fun p hp=>by
 rcases h with ⟨rfl,rfl⟩ | ⟨b,rfl,hb,ha⟩
 ·have h1:=(iU.1 ((gW.1 hc).2.2.1 0 x hx)).1 rfl
  rw [h1] at hp;cases hp
 have h1:=(aBV.1 hF).2.1 a x hx
 rw [aZ] at h1
 have h2:=h1 p hp
 unfold fJ at h2
 simp only [aN,aZ] at h2
 have h3:=h2.2 (b:Int) (by unfold natI;exact aY.2 ⟨b,aCP hb ha,rfl⟩)
 exact dX.1 h3
theorem In.lt {f:FuncD} (hc:eL f=0) {src:Int} {a:Nat} (h:In f src a):a < f.blocks.length:=by
 rcases h with ⟨rfl,rfl⟩ | ⟨b,rfl,hb,ha⟩
 ·exact (gV (eS hc).1).1
 exact (aH4 (eS hc).1 ha).1
theorem aE3 {fuel:Nat} {x:InstrD} {s:RunS} (h:¬ s.steps=fuel):oneS fuel x s=(fA x { s with steps:=s.steps+1 }).bind fun v s2=>.go () (putS x v s2):=by
 unfold oneS iL
 rw [if_neg h];rfl
theorem aA3 {fuel:Nat} {x:InstrD} {s:RunS} (h:s.steps=fuel):oneS fuel x s = .over ⟨3,0,0⟩ s:=by
 unfold oneS iL
 rw [if_pos h];rfl
theorem aA4 {fuel:Nat} {x:InstrD} {s:RunS}:(oneS fuel x s).st.visits=s.visits/\s.steps <= (oneS fuel x s).st.steps/\(oneS fuel x s).st.steps <= s.steps+1/\((∃ s1,oneS fuel x s = .go () s1) -> (oneS fuel x s).st.steps=s.steps+1):=by
 by_cases h:s.steps=fuel
 ·rw [aA3 h]
  exact ⟨rfl,aF _,by show s.steps <= _;omega,fun ⟨_,h⟩=>by cases h⟩
 rw [aE3 h]
 have ha:=oL x { s with steps:=s.steps+1 }
 cases hi:fA x { s with steps:=s.steps+1 } with
 | over o s2 =>
  rw [hi] at ha
  have h1:s2.steps=s.steps+1:=ha.stp
  refine ⟨ha.vis, ?_, ?_,fun _=>h1⟩
  ·show s.steps <= s2.steps;omega
  show s2.steps <= s.steps+1;omega
 | go v s2 =>
  rw [hi] at ha
  have h1:(putS x v s2).visits=s2.visits/\(putS x v s2).steps=s2.steps:=by unfold putS;split <;> exact ⟨rfl,rfl⟩
  have h2:s2.steps=s.steps+1:=ha.stp
  refine ⟨h1.1.trans ha.vis, ?_, ?_,fun _=>h1.2.trans h2⟩
  ·show s.steps <= (putS x v s2).steps;omega
  show (putS x v s2).steps <= s.steps+1;omega
theorem qB {fuel:Nat}:∀ {xs:List InstrD} {s:RunS},(gQ fuel xs s).st.visits=s.visits/\s.steps <= (gQ fuel xs s).st.steps/\(gQ fuel xs s).st.steps <= s.steps+xs.length/\((∃ s1,gQ fuel xs s = .go () s1) -> (gQ fuel xs s).st.steps=s.steps+xs.length)
 | [],s=>⟨rfl,aF _,by show s.steps <= _;simp,fun _=>rfl⟩
 | x :: xs,s=>by
  obtain ⟨h1,h2,h3,h4⟩:=aA4 (fuel:=fuel) (x:=x) (s:=s)
  unfold gQ
  cases ho:oneS fuel x s with
  | over o s2 =>
   rw [ho] at h1 h2 h3
   refine ⟨h1,h2, ?_,fun ⟨_,h⟩=>by cases h⟩
   show s2.steps <= _
   simp only [Res.st] at h3
   rw [bB];omega
  | go u s2 =>
   rw [ho] at h1 h2 h3 h4
   obtain ⟨k1,k2,k3,k4⟩:=qB (fuel:=fuel) (xs:=xs) (s:=s2)
   have h5:=h4 ⟨s2,rfl⟩
   simp only [Res.st] at h1 h2 h3 h5
   show (gQ fuel xs s2).st.visits=_/\s.steps <= (gQ fuel xs s2).st.steps/\(gQ fuel xs s2).st.steps <= _/\((∃ s1,gQ fuel xs s2 = .go () s1) -> (gQ fuel xs s2).st.steps=_)
   rw [bB]
   exact ⟨k1.trans h1,by omega,by omega,fun h=>by have:=k4 h;omega⟩
structure Gone (f:FuncD) (fuel:Nat) (a:Nat) (x:BlockD) (s s2:RunS) (to:Int):Prop where
 good:GoodS f fuel s2
 steps:s2.steps=s.steps+x.code.length+1
 visits:s2.visits=s.visits.modify a (· + 1)
 to:∃ t:Nat,to=t/\t ∈ toB f a
theorem rA {f:FuncD} {fuel:Nat} {src to:Int} {a:Nat} {s s2:RunS} {x:BlockD} (hc:eL f=0) (hG:GoodS f fuel s) (hx:f.blocks[a]? = some x) (hs:∀ p ∈ x.phis,src ∈ p.src) (h:gP f fuel src a s = .go to s2):Gone f fuel a x s s2 to:=by
 have hxm:=aG hx
 have hal:=(aE.1 hx).1
 unfold gP at h
 rw [getD_some hx] at h
 have g1:=(hG.visit a).phis hc hx hs
 have hp:(nC x src (kD a s)).steps=s.steps/\(nC x src (kD a s)).visits=s.visits.modify a (· + 1):=by
  unfold nC
  rw [xD]
  exact ⟨rfl,rfl⟩
 cases hcd:gQ fuel x.code (nC x src (kD a s)) with
 | over o s3=>rw [hcd] at h;cases h
 | go u s3 =>
  rw [hcd] at h
  obtain ⟨k1, -, -,k4⟩:=qB (fuel:=fuel) (xs:=x.code) (s:=nC x src (kD a s))
  rw [hcd] at k1 k4
  have k5:=k4 ⟨s3,rfl⟩
  simp only [Res.st] at k1 k5
  have g3:=g1.code hc hxm (fun y hy=>hy) hcd
  change (iL fuel s3).bind (fun _ s2=>endR x.term s2)=_ at h
  cases hst:iL fuel s3 with
  | over o s4=>rw [hst] at h;cases h
  | go u s4 =>
   rw [hst] at h
   obtain ⟨e4,g4, -⟩:=g3.step hst
   change endR x.term s4=_ at h
   have hend:s2=s4 /\ ∃ k:Nat,k < x.term.to.length/\to=x.term.to.getD k 0:=by
    have hk:=(iU.1 ((gW.1 hc).2.2.1 a x hx)).2.2.2
    unfold gS at hk
    simp only [aN,bQ,beq_iff_eq] at hk
    unfold endR at h
    split at h
    ·cases h
    split at h
    ·cases h
    split at h
    ·rename_i h2
     injection h with h h'
     refine ⟨h'.symm,_, ?_,h.symm⟩
     have hl:x.term.to.length=2:=by
      rcases hk.2 with ((h8 | h8) | h8) | h8
      ·have:=h8.1.1.1;omega
      ·exact h8.1.2
      ·have:=h8.1.1;omega
      have:=h8.1.1.1;omega
     have hfl:=g4.flag _ (nZ hc (lU hxm h2) (by simp))
     simp only at hfl
     rcases hfl with h9 | h9 <;> rw [h9,hl] <;> decide
    rename_i n3 n4 n2
    injection h with h h'
    refine ⟨h'.symm,0, ?_,h.symm⟩
    rcases hk.2 with ((h8 | h8) | h8) | h8
    ·rw [h8.1.1.2];omega
    ·exact absurd h8.1.1 n2
    ·exact absurd h8.1.1 n3
    exact absurd h8.1.1.1 n4
   obtain ⟨e2,k,hkl,hto⟩:=hend
   subst e2
   refine ⟨g4, ?_, ?_, ?_⟩
   ·rw [e4];show s3.steps+1=_;omega
   ·rw [e4];show s3.visits=_;rw [k1,hp.2]
   have hq:x.term.to[k]? = some to:=by rw [hto,aH,aB hkl];rfl
   have h1:=mV (eS hc).1 hx to (aG hq)
   refine ⟨to.toNat,by omega, ?_⟩
   rw [oN hx,aY]
   exact ⟨to,aG hq,rfl⟩
theorem MachP.over {base bs fuel:Nat} {W W' : World} {bm:Nat} {s:RunS} {o:OverD} {ov av vv cv:Value} {mv:Nat} {m:List (Int × Value)} {F:Nat -> Foot} (h:MachP base bs fuel W bm s ⟨0,0,0⟩ ov av vv cv mv m F) (ho:Off (Foot.one bm) W W')
  (hb:Box W' bm #[.int .i64 o.how,.int .i64 o.value,.int .i64 o.trap,ov,av,.int .i64 s.steps,.int .i64 s.checks,vv,.pointer (some ⟨bs,0,none⟩),.int .i64 fuel,.map (some mv),cv]):MachP base bs fuel W' bm s o ov av vv cv mv m F:=by
 have hne:∀ j,j ≠ 0 -> (F j).off (Foot.one bm):=fun j hj k hk e=>h.apart j 0 hj k hk ((h.b0 k).2 e)
 exact ⟨hb,h.b0,h.out.off ho (hne 1 (by omega)),h.arr.off OLis.nice ho (hne 2 (by omega)),h.vis.off ho (hne 3 (by omega)),h.mp.keep (ho.block _ h.mp.lt (hne 4 (by omega) _ ((h.m4 _).2 rfl))),h.m4,h.val,h.cel.off ho (hne 5 (by omega)),h.v64,h.apart,h.six,h.base⟩
def stepsAt (W:World) (bm:Nat):Nat:=match W.cell? ⟨bm,5,none⟩ with | some (.int _ n)=>n.toNat | _=>0
theorem Mach.stepsAt {base bs fuel:Nat} {W:World} {bm:Nat} {D:Foot} {s:RunS} (h:Mach base bs fuel W bm D s):stepsAt W bm=s.steps:=by
 obtain ⟨_,_,_,_,_,_,_,hP,_⟩:=h
 unfold Go.Proofs.YtcmflfkpeodicaaGreat.stepsAt
 rw [hP.box.at 5 rfl]
 simp
def aHD (f:FuncD) (base bs fuel:Nat) (w:World) (bm:Nat) (D:Foot) (s:RunS) (e:Ending) (w' : World):Prop :=
 ∃ (o:OverD) (s' : RunS) (ov av vv cv:Value) (mv:Nat) (m:List (Int × Value)) (F:Nat -> Foot),e = .returned (.tuple #[])/\Runs f fuel (-1) 0 s o s' /\ MachP base bs fuel w' bm s' o ov av vv cv mv m F/\Off D w w' /\ ∀ i k,F i k -> D k \/ w.heap.size <= k
set_option maxRecDepth 100000 in
theorem aHE {base bs fuel bm:Nat} {w:World} {D:Foot} {s:RunS} {f:FuncD} (hM:Mach base bs fuel w bm D s) (hB:base <= w.heap.size) (hE:Env f base w bs) (hc:eL f=0) (hF:fM f 0 0) (hfu:fuel <= 200000) (hG:GoodS f fuel s) (hV:∀ n ∈ s.visits,n <= s.steps+1) :
  Calls Tryz.prog 40 #[.pointer (some ⟨bm,0,none⟩)] w (aHD f base bs fuel w bm D s):=by
 have hmf:∀ (fn:Fn) (first cap:Array Value) (w:World),(Instr.makeFunc fn first cap).run Tryz.prog w = .ok (.func fn first cap) w:=fun _ _ _ _=>rfl
 have HM:=h! hM
 have HB:=h! hB
 have HE:=h! hE
 have HC:=h! hc
 have HF:=h! hF
 have HG:=h! hG
 have HV:=h! hV
 have hlt:=hM.lt
 have HLT:=h! hlt
 clear hM hB hE hc hF hG hV hlt
 go_enter_defers Tryz.func40,Tryz.ntmps40
 go_wp2_with fail
 go_loopw [2,3] (fun fr at_ wr => ∃ (src:Int) (a:Nat) (s1:RunS),fr = .int .i64 src/\at_ = .int .i64 a/\In f src a/\(∀ o s',Runs f fuel src a s1 o s' -> Runs f fuel (-1) 0 s o s')/\GoodS f fuel s1/\(∀ n ∈ s1.visits,n <= s1.steps+1) /\ ∃ D1,Mach base bs fuel wr bm D1 s1/\Off D w wr/\(∀ k,D1 k -> D k \/ w.heap.size <= k) /\ ¬ D1 w.heap.size/\Box wr w.heap.size #[.pointer (some ⟨bm,0,none⟩)]) (fun _ _ W=>fuel - stepsAt W bm)
 case atStart=>exact ⟨-1,0,s,rfl,rfl,.inl ⟨rfl,rfl⟩,fun _ _ h=>h,HG.out,HV.out,D,HM.out.alloc _,Off.alloc _ _ _,fun k h=>.inl h,fun h=>by have:=HLT.out _ h;omega,Box.new _ _ _⟩
 case round =>
  obtain ⟨src,a,s1,rfl,rfl,hin,hru,hg1,hv1,D1,hm1,ho1,hd1,hb1,hB1⟩:=hrel
  have hal:=hin.lt HC.out
  obtain ⟨x,hx⟩ : ∃ x,f.blocks[a]? = some x:=⟨_,aB hal⟩
  have HIN:=h! hin
  have HRU:=h! hru
  have HG1:=h! hg1
  have HV1:=h! hv1
  have HM1:=h! hm1
  have HO1:=h! ho1
  have HD1:=h! hd1
  have HN1:=h! hb1
  have B1:=h! hB1
  have HX:=h! hx
  have HSR:=h! (hin.phis HC.out HF.out hx)
  have HEW:Hid (Env f base wr bs):=h! (HE.out.later (ho1.below HB.out (fun k _ hk=>HM.out.base k hk)))
  have hBw:base <= wr.heap.size:=aJ HB.out ho1.size
  have HVB:Hid (∀ n ∈ s1.visits,n <= 1000000):=h! (fun n hn=>by have:=hv1 n hn;have:=hg1.stp;omega)
  clear hin hru hg1 hv1 hm1 ho1 hd1 hb1 hB1 hx hal
  obtain ⟨l1,c1,f1⟩:=B1.out
  go_wp2_with fail
  clear l1 c1 f1
  refine (aF5 HM1.out hBw HEW.out HC.out hfu HG1.out HVB.out HX.out HSR.out).mono ?_
  rintro e w2 h9
  cases hbl:gP f fuel src a s1 with
  | over o s2 =>
   rw [hbl] at h9
   obtain ⟨rfl,D2,hm2,ho2,hd2⟩:=h9
   have HRUN:Hid (Runs f fuel (-1) 0 s o s2):=h! (HRU.out o s2 (Runs.over hbl))
   have B2:=h! (B1.out.off ho2 HN1.out)
   have HO2:Hid (Off D w w2):=h! (Off.grow HO1.out ho2 HD1.out)
   have HD2:Hid (∀ k,D2 k -> D k \/ w.heap.size <= k):=h! (fun k hk=>by
    rcases hd2 k hk with h | h
    ·exact HD1.out k h
    exact .inr (aJ HO1.out.size h))
   have HN2:Hid (¬ D2 w.heap.size):=h! (fun h=>(hd2 _ h).elim HN1.out (fun h=>by have:=B1.out.lt;omega))
   obtain ⟨ov,av,vv,cv,mv,m,F,hP,hDF⟩:=hm2
   have HP:=h! hP
   have HDF:=h! hDF
   clear ho2 hd2 hP hDF hbl
   unfold jW
   go_wp2
   refine leaves_cons (f:=80) (args:=#[.pointer (some ⟨w.heap.size,0,none⟩)]) (by simp) (by simp [go_sem]) ?_
   refine (aGD B2.out HP.out.box (fun e=>HN2.out ((HDF.out _).2 ⟨0,(HP.out.b0 _).2 e⟩))).mono ?_
   rintro e u' w3 ⟨rfl,rfl,hbx,hof⟩
   have HBX:=h! hbx
   have HOF:=h! hof
   clear hbx hof
   simp [Leaves,settle,results,Tryz.results40,go_sem]
   refine ⟨o,s2,ov,av,vv,cv,mv,m,F,rfl,HRUN.out,HP.out.over HOF.out HBX.out,Off.grow HO2.out HOF.out (fun k hk=>by cases hk;exact HD2.out _ ((HDF.out _).2 ⟨0,(HP.out.b0 _).2 rfl⟩)),fun i k hk=>HD2.out k ((HDF.out k).2 ⟨i,hk⟩)⟩
  | go to s2 =>
   rw [hbl] at h9
   obtain ⟨rfl,D2,hm2,ho2,hd2⟩:=h9
   have hgo:=rA HC.out HG1.out HX.out HSR.out hbl
   obtain ⟨t,rfl,ht⟩:=hgo.to
   have HGO:=h! hgo
   have HT:=h! ht
   have HBL:=h! hbl
   have B2:=h! (B1.out.off ho2 HN1.out)
   have HO2:Hid (Off D w w2):=h! (Off.grow HO1.out ho2 HD1.out)
   have HD2:Hid (∀ k,D2 k -> D k \/ w.heap.size <= k):=h! (fun k hk=>by
    rcases hd2 k hk with h | h
    ·exact HD1.out k h
    exact .inr (aJ HO1.out.size h))
   have HN2:Hid (¬ D2 w.heap.size):=h! (fun h=>(hd2 _ h).elim HN1.out (fun h=>by have:=B1.out.lt;omega))
   have HM2:=h! hm2
   have HVN:Hid (∀ n ∈ s2.visits,n <= s2.steps+1):=h! (fun n hn=>by
    rw [hgo.visits] at hn
    obtain ⟨i,hi⟩:=bP hn
    rw [eC] at hi
    have hs:=hgo.steps
    cases hq:s1.visits[i]? with
    | none=>rw [hq] at hi;simp at hi
    | some q =>
     rw [hq] at hi
     have:=HV1.out q (aG hq)
     simp at hi
     split at hi <;> omega)
   clear ho2 hd2 hm2 hgo ht hbl
   have hal:a < f.blocks.length:=HIN.out.lt HC.out
   go_wp2
   go_roundw
   case rel=>exact ⟨a,t,s2,rfl,rfl,.inr ⟨a,rfl,hal,HT.out⟩,fun o s' h=>HRU.out o s' (Runs.go HBL.out (by simpa using h)),HGO.out.good,HVN.out,D2,HM2.out,HO2.out,HD2.out,HN2.out,B2.out⟩
   rw [HM2.out.stepsAt,HM1.out.stepsAt]
   have:=HGO.out.steps
   have:=HGO.out.good.stp
   omega
def nA (W:World) (v:Value) (i:InputD):Prop := ∃ a b,v = .agg #[a,b]/\Ints W a i.args/\kR W b i.arrays
theorem nA.below {W W' : World} {v:Value} {i:InputD} (h:nA W v i) (hb:Below W.heap.size W W'):nA W' v i:=by
 obtain ⟨a,b,e,h1,h2⟩:=h
 exact ⟨a,b,e,h1.below hb,h2.below hb⟩
theorem aIJ {w:World} {v:Value} {i:InputD} {n:Nat} (hv:nA w v i):Calls Tryz.prog 39 #[v,.int .i64 n] w (aDD ((i.arrays.getD n []).take 4096) w):=by
 obtain ⟨a,b,rfl, -,hb⟩:=hv
 obtain ⟨vs,ab,cb,bb,ob,rfl,hc,hm,hm2,hbl,hcells,hints⟩:=hb.parts
 obtain ⟨aa,haa⟩ : ∃ aa,aa=i.arrays:=⟨_,rfl⟩
 rw [<-haa] at hbl hcells hints ⊢
 rw [<-haa] at hc hm2
 obtain ⟨l,hl⟩ : ∃ l,l=aa.length:=⟨_,rfl⟩
 rw [<-hl] at hbl hcells hints hc hm2
 rw [<-hl]
 clear hb haa
 by_cases hlt:n < l
 ·have ht:decide ((l:Int) <= (n:Int))=false:=by simp;omega
  obtain ⟨rfl,hbw⟩:=hbl (by omega)
  have hx:=hcells n hlt
  have hi:=hints n hlt
  obtain ⟨ax,cx,hxe⟩:=hi.form
  rw [hxe] at hx hi
  obtain ⟨xs,hxs⟩ : ∃ xs,xs=aa.getD n []:=⟨_,rfl⟩
  rw [<-hxs] at hx hi ⊢
  obtain ⟨m,hmm⟩ : ∃ m,m=xs.length:=⟨_,rfl⟩
  obtain ⟨ax2,cx2,bx,ox,hxe2,hcm,hcc, -, -⟩:=hi.parts
  cases hxe2
  rw [<-hmm] at hx hi hcm
  have HI:=h! hi
  have HMM:=h! hmm
  have hb64:=hi.le
  rw [<-hmm] at hb64
  clear hcells hints hbl hl hxs hxe hi hmm
  go_enter Tryz.func39,Tryz.ntmps39
  go_upto_region 1 with (fail)
  have hA_:=(Below.refl w.heap.size w).alloc (aF _) (.cells #[a,.slice (some ⟨bb,ob,none⟩) l cb] 28)
  have HW:=h! hA_
  clear hA_
  have B2:=h! (Box.new w #[a,.slice (some ⟨bb,ob,none⟩) l cb] 28)
  generalize w.alloc (.cells #[a,.slice (some ⟨bb,ob,none⟩) l cb] 28)=wv at *
  obtain ⟨lB2,cB2,fB2⟩:=B2.out
  have hx1:=(HW.out.cell (p:=⟨bb,ob+n,none⟩) hbw).trans hx
  clear hx
  obtain ⟨k,hk⟩ : ∃ k,k=min m 4096:=⟨_,rfl⟩
  have hmin:(min (m:Int) 4096).toNat=k:=by omega
  have hkm:k <= m:=by omega
  have HQ:Hid (xs.take 4096=xs.take k):=h! (by
   rw [hk,HMM.out]
   by_cases h4:xs.length <= 4096
   ·rw [dH h4,aI h4,cM]
   rw [Nat.min_eq_right (by omega)])
  clear hk
  go_upto_region 4 with (fail)
  go_wp2_with fail
  clear lB2 cB2 fB2
  refine (aHR ((HI.out.take (k:=k) (by have:=HMM.out;omega)).below HW.out)).mono ?_
  rintro e w2 ⟨u,S,rfl,ho,hf,hb⟩
  have HO:=h! ho
  have HF:=h! hf
  have HB:=h! hb
  clear ho hf hb
  go_wp2
  go_ret
  exact ⟨u,S,rfl,by rw [HQ.out];exact HO.out,fun k hk=>aJ HW.out.size (HF.out k hk),HW.out.trans (HB.out.mono HW.out.size)⟩
 have ht:decide ((l:Int) <= (n:Int))=true:=by simp;omega
 have hnil:(aa.getD n []).take 4096=[]:=by rw [aH,aW (by omega)];rfl
 have HN:=h! hnil
 clear hcells hints hbl hl hnil
 go_enter Tryz.func39,Tryz.ntmps39
 go_upto_region 1 with (fail)
 have hA_:=(Below.refl w.heap.size w).alloc (aF _) (.cells #[a,.slice ab l cb] 28)
 have HW:=h! hA_
 clear hA_
 have B2:=h! (Box.new w #[a,.slice ab l cb] 28)
 generalize w.alloc (.cells #[a,.slice ab l cb] 28)=wv at *
 obtain ⟨lB2,cB2,fB2⟩:=B2.out
 go_wp2
 go_ret
 exact ⟨_,Foot.none,rfl,by rw [HN.out];exact eM.nil none,fun k hk=>hk.elim,HW.out⟩
theorem iG.lists {W:World} {S:Foot} {v:Value} {xs:List (List Int)} (h:iG W S v xs):kR W v xs:=by
 obtain ⟨cs,G,F,hp⟩:=h
 have hl:=hp.row.row.len
 refine ⟨cs,by omega,hp.row.row,fun j hj => ?_⟩
 obtain ⟨u,hu,ho⟩:=hp.el j _ (aB hj)
 have hc0:cs[j]? = some u:=by
  have h1:=vB (cs:=cs) (size:=1) (j:=j) (i:=0) (by omega)
  rw [hu] at h1
  simpa using h1.symm
 have e1:cs.getD j undef=u:=by rw [aH,hc0];rfl
 have e2:xs.getD j []=xs[j]:=by rw [aH,aB hj];rfl
 rw [e1,e2]
 exact ho.ints
theorem MachP.arrs {base bs fuel:Nat} {W W1:World} {bm:Nat} {s:RunS} {ov av vv cv u:Value} {mv:Nat} {m:List (Int × Value)} {F:Nat -> Foot} {G:Foot} {xs:List (List Int)} (h:MachP base bs fuel W bm s ⟨0,0,0⟩ ov av vv cv mv m F) (ho:Off (F 2) W W1) (hG:∀ k,G k -> F 2 k \/ W.heap.size <= k) (hB:base <= W.heap.size)
  (hu:iG W1 G u xs):MachP base bs fuel (W1.setCell ⟨bm,4,none⟩ u) bm { s with arrays:=xs } ⟨0,0,0⟩ ov u vv cv mv m (newF F 2 G):=by
 have hne:∀ j,j ≠ 2 -> (F j).off (F 2):=fun j hj=>h.apart j 2 hj
 have hap:=jO (i:=2) (G:=G) h.apart (fun _ _ hk=>h.lt hk) hG
 have hoff:=Off.set W1 ⟨bm,4,none⟩ u
 have hb0:newF F 2 G 0 bm:=by rw [eV F 2 G (by omega)];exact (h.b0 bm).2 rfl
 have hq:∀ j,j ≠ 0 -> (newF F 2 G j).off (Foot.one bm):=fun j hj k hk e=>hap j 0 hj k hk (by cases e;exact hb0)
 have hq' : ∀ j,j ≠ 0 -> j ≠ 2 -> (F j).off (Foot.one bm):=fun j hj hj1=>by have h9:=hq j hj;rwa [eV F 2 G hj1] at h9
 have hbx:=(h.box.off ho (fun e=>h.apart 0 2 (by omega) _ ((h.b0 _).2 rfl) e)).set 4 u
 refine ⟨hbx,by rw [eV F 2 G (by omega)];exact h.b0, ?_, ?_, ?_, ?_, ?_,h.val, ?_,h.v64,hap, ?_, ?_⟩
 ·rw [eV F 2 G (by omega)];exact (h.out.off ho (hne 1 (by omega))).off hoff (hq' 1 (by omega) (by omega))
 ·have h9:=hq 2 (by omega)
  rw [iQ] at h9 ⊢
  exact hu.off OLis.nice hoff h9
 ·rw [eV F 2 G (by omega)];exact (h.vis.off ho (hne 3 (by omega))).off hoff (hq' 3 (by omega) (by omega))
 ·have h9:=h.mp.keep (ho.block _ h.mp.lt (fun hk=>h.apart 4 2 (by omega) _ ((h.m4 _).2 rfl) hk))
  exact h9.keep (hoff.block _ h9.lt (hq' 4 (by omega) (by omega) _ ((h.m4 _).2 rfl)))
 ·rw [eV F 2 G (by omega)];exact h.m4
 ·rw [eV F 2 G (by omega)];exact (h.cel.off ho (hne 5 (by omega))).off hoff (hq' 5 (by omega) (by omega))
 ·intro j k hk
  unfold newF at hk
  by_cases e:j=2
  ·omega
  rw [if_neg e] at hk;exact h.six j k hk
 ·intro j k hk
  unfold newF at hk
  by_cases e:j=2
  ·rw [if_pos e] at hk
   rcases hG k hk with h9 | h9
   ·exact h.base 2 k h9
   omega
  rw [if_neg e] at hk;exact h.base j k hk
theorem GoodS.start {f:FuncD} {i:InputD} {fuel:Nat} (hc:eL f=0):GoodS f fuel (iI f i):=by
 refine ⟨?_, ?_,fun a ha => ?_,aP _,aF _,aP _, ?_,fun id ht => ?_⟩
 ·show ((List.range f.arrays.toNat).map _).length=_
  rw [bD,List.length_range]
 ·show (List.replicate _ _).length=_
  rw [aV]
 ·obtain ⟨k, -,rfl⟩:=aY.1 ha
  rw [aX];omega
 ·show (List.replicate _ _).length=_
  rw [aV]
 show argI f i.args id=0 \/ argI f i.args id=1
 unfold argI
 split
 ·rename_i h
  have hm:(id,f.params.getD id.toNat 0) ∈ eR f:=by
   unfold eR parT
   refine List.mem_append_left _ (aY.2 ⟨(f.params.getD id.toNat 0,id.toNat), ?_, ?_⟩)
   ·rw [bS]
    exact eX f.params id.toNat (by omega)
   show (((id.toNat:Nat):Int),f.params.getD id.toNat 0)=_
   rw [Int.toNat_of_nonneg h.1]
  rw [mG (nH hc) hm] at ht
  injection ht with ht
  rw [if_pos ht]
  exact kN _
 exact .inl rfl
end Go.Proofs.YtcmflfkpeodicaaGreat
