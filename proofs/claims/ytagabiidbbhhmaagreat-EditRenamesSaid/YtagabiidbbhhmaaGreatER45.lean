/- Part 45. -/
import Derived.Test.YtagabiidbbhhmaaGreatER31
namespace Go.Proofs.YtagabiidbbhhmaaGreat
set_option linter.all false
open Go.RowKit
set_option maxHeartbeats 25600000 in
set_option maxRecDepth 100000 in
theorem nW {w:World} {v:Value} {x:BlockD} (hv:BlockV w v x) (hp1:x.phis.length <= 100000) (hc1:x.code.length <= 100000):Calls Tryz.prog 80 #[v] w (pT x w):=by
 have HX:=h! hv
 obtain ⟨⟨pv,uv,tv,rfl,hp,hc,ht⟩, -, -, -⟩:=hv
 obtain ⟨ap,cp,bp,op_,rfl,em,hpm,bx,dg,dt⟩:=fQ hp
 obtain ⟨ac,cc,bc,oc,rfl,ej,hcm,cm,df,ea⟩:=fZ hc
 obtain ⟨ta,tc,rfl⟩:=ht.form
 obtain ⟨tl,bz⟩ : ∃ n,n=x.term.to.length:=⟨_,rfl⟩
 rw [<-bz] at ht
 have eg:=h! bz
 obtain ⟨pl,dp⟩ : ∃ n,n=x.phis.length:=⟨_,rfl⟩
 obtain ⟨cl,cG⟩ : ∃ n,n=x.code.length:=⟨_,rfl⟩
 obtain ⟨op,cF⟩ : ∃ n,n=x.term.op:=⟨_,rfl⟩
 obtain ⟨val,bl⟩ : ∃ n,n=x.term.val:=⟨_,rfl⟩
 obtain ⟨tn,dn⟩ : ∃ n,n=x.term.n:=⟨_,rfl⟩
 have ep:Hid (op=x.term.op/\val=x.term.val/\tn=x.term.n):=h! ⟨cF,bl,dn⟩
 unfold pT
 rw [<-cF, <-bl, <-dn]
 rw [<-dp] at hp1 em dg ⊢
 rw [<-cG] at hc1 ej df ⊢
 have cM:=h! dp
 have dk:=h! cG
 have en:=h! dg
 have ds:=h! dt
 have ee:=h! df
 have ec:=h! ea
 have ef:=h! ht
 rw [<-bz] at HX
 rw [<-bz]
 clear hp hc ht bz dg dt df ea dp cG cF bl dn bx cm
 go_enter Tryz.func80,Tryz.ntmps80
 go_upto_region 2 with (fail)
 have ar:=(Below.refl w.heap.size w).alloc (aB _) (.cells #[.slice ap pl cp,.slice ac cl cc,.int .i64 op,.int .i64 val,.slice ta tl tc,.int .i64 tn] 63)
 have HW:=h! ar
 clear ar
 have B1:=h! (Box.new w #[.slice ap pl cp,.slice ac cl cc,.int .i64 op,.int .i64 val,.slice ta tl tc,.int .i64 tn] 63)
 have bn:(w.alloc (.cells #[.slice ap pl cp,.slice ac cl cc,.int .i64 op,.int .i64 val,.slice ta tl tc,.int .i64 tn] 63)).heap.size=w.heap.size+1:=World.size_alloc _ _
 generalize w.alloc (.cells #[.slice ap pl cp,.slice ac cl cc,.int .i64 op,.int .i64 val,.slice ta tl tc,.int .i64 tn] 63)=bs at *
 have ar:=(Below.refl bs.heap.size bs).alloc (aB _) (.cells #[.slice none 0 0,.slice none 0 0,.int .i64 0,.int .i64 0,.slice none 0 0,.int .i64 0] 63)
 replace B1:=h! (B1.out.later ar)
 replace HW:=h! (HW.out.trans (ar.mono HW.out.size))
 clear ar
 have B2:=h! (Box.new bs #[.slice none 0 0,.slice none 0 0,.int .i64 0,.int .i64 0,.slice none 0 0,.int .i64 0] 63)
 rw [bn] at B2
 have bO:(bs.alloc (.cells #[.slice none 0 0,.slice none 0 0,.int .i64 0,.int .i64 0,.slice none 0 0,.int .i64 0] 63)).heap.size=w.heap.size+1+1:=by rw [World.size_alloc,bn]
 clear bn
 generalize bs.alloc (.cells #[.slice none 0 0,.slice none 0 0,.int .i64 0,.int .i64 0,.slice none 0 0,.int .i64 0] 63)=cz at *
 have ar:=(Below.refl cz.heap.size cz).alloc (aB _) (.cells #[.slice none 0 0,.slice none 0 0,.int .i64 op,.int .i64 val,.slice ta tl tc,.int .i64 tn] 63)
 replace B1:=h! (B1.out.later ar)
 replace B2:=h! (B2.out.later ar)
 replace HW:=h! (HW.out.trans (ar.mono HW.out.size))
 clear ar
 have B3:=h! (Box.new cz #[.slice none 0 0,.slice none 0 0,.int .i64 op,.int .i64 val,.slice ta tl tc,.int .i64 tn] 63)
 rw [bO] at B3
 clear bO
 generalize cz.alloc (.cells #[.slice none 0 0,.slice none 0 0,.int .i64 op,.int .i64 val,.slice ta tl tc,.int .i64 tn] 63)=wv at *
 obtain ⟨ag,am,al⟩:=B1.out
 obtain ⟨ah,aj,ak⟩:=B2.out
 obtain ⟨ae,an,ai⟩:=B3.out
 go_upto_region 3 with (at_builtin;refine jB rfl _ _ rfl rfl rfl (ef.out.below HW.out) ?_;intro ay ax w2 ST q1 q2 q3;have cw:=B3.out.later q3;obtain ⟨lx,cx,fx⟩:=cw)
 clear lx cx fx
 rw [<-eg.out] at q1 ⊢
 have ad:Hid (Holds [w.heap.size,w.heap.size+1,w.heap.size+1+1] (w.heap.size+3) w2 ST (fun W=>eU W ST (.slice ay tl ax) x.term.to)):=h! (((gH q1 q2).from (by have:=B3.out.lt;omega)).low (by simp))
 clear q1 q2
 clear ag am al ah aj ak ae an ai
 replace B1:=h! (B1.out.later q3)
 replace B2:=h! (B2.out.later q3)
 replace B3:=h! (B3.out.later q3)
 replace HW:=h! (HW.out.trans (q3.mono HW.out.size))
 clear q3
 obtain ⟨ag,am,al⟩:=B1.out
 obtain ⟨ah,aj,ak⟩:=B2.out
 obtain ⟨ae,an,ai⟩:=B3.out
 clear ag am al ah aj ak ae an ai
 have ao:=(Only.set w2 (w.heap.size+1+1) 4 (.slice ay tl ax))
 replace B1:=h! (B1.out.only ao (by first | assumption | (simp;done) | omega))
 replace B2:=h! (B2.out.only ao (by first | assumption | (simp;done) | omega))
 replace ad:=h! (ad.out.other (p:=⟨w.heap.size+1+1,4,none⟩) (.slice ay tl ax) (by simp))
 replace HW:=h! (ao.2.2 HW.out (by first | assumption | omega | (have:=HW.out.size;omega) | (simp;done) | (simp;omega)))
 replace B3:=h! (Box.to (A':=#[.slice none 0 0,.slice none 0 0,.int .i64 op,.int .i64 val,(.slice ay tl ax),.int .i64 tn]) (B3.out.set 4 (.slice ay tl ax)) (by first | rfl | simp))
 clear ao
 generalize (w2.setCell ⟨w.heap.size+1+1,4,none⟩ (.slice ay tl ax))=w3 at *
 obtain ⟨ag,am,al⟩:=B1.out
 obtain ⟨ah,aj,ak⟩:=B2.out
 obtain ⟨ae,an,ai⟩:=B3.out
 go_wp2_with fail
 go_loopw [4] (fun i wr => ∃ (j:Nat) (vj:Value) (SP:Foot),j <= pl/\i = .int .i64 j/\Below w.heap.size w wr/\Box wr w.heap.size #[.slice ap pl cp,.slice ac cl cc,.int .i64 op,.int .i64 val,.slice ta tl tc,.int .i64 tn]/\Box wr (w.heap.size+1) #[.slice none 0 0,.slice none 0 0,.int .i64 0,.int .i64 0,.slice none 0 0,.int .i64 0]/\Box wr (w.heap.size+1+1) #[vj,.slice none 0 0,.int .i64 op,.int .i64 val,.slice ay tl ax,.int .i64 tn] /\
   Holds [w.heap.size,w.heap.size+1,w.heap.size+1+1] (w.heap.size+3) wr ST (fun W=>eU W ST (.slice ay tl ax) x.term.to)/\Holds [w.heap.size,w.heap.size+1,w.heap.size+1+1] (w.heap.size+3) wr SP (fun W=>fS W SP vj (x.phis.take j))/\SP.off ST/\(∃ a c,vj = .slice a j c)) (fun i _=>pl - (intOf i).toNat)
 case atStart=>exact ⟨0,.slice none 0 0,Foot.none,aJ _,rfl,HW.out,B1.out,B2.out,B3.out,ad.out,⟨OSl.nil none,fun _ _ h hk=>h.keep OPhi.nice hk,fun k h=>h.elim,fun k h=>h.elim,fun k h=>h.elim⟩,fun k h=>h.elim,_,_,rfl⟩
 obtain ⟨j,vj,SP,hj,rfl,hW,h1,h2,h3,h4,h5,h6,av,cv,rfl⟩:=hrel
 clear ag am al ah aj ak ae an ai
 replace HW:=h! hW
 replace B1:=h! h1
 replace B2:=h! h2
 replace B3:=h! h3
 replace ad:=h! h4
 have aq:=h! h5
 have cb:=h! h6
 clear hW h1 h2 h3 h4 h5 h6
 generalize wr=w4 at *
 obtain ⟨ag,am,al⟩:=B1.out
 obtain ⟨ah,aj,ak⟩:=B2.out
 obtain ⟨ae,an,ai⟩:=B3.out
 by_cases hlt:j < pl
 ·obtain ⟨rfl,eo⟩:=en.out (by omega)
  obtain ⟨p,bm⟩ : ∃ p,x.phis[j]? = some p:=⟨_,aC (by have:=cM.out;omega)⟩
  obtain ⟨af,cy,cf,cB,hP⟩:=ds.out j p bm
  have di:=h! hP.src
  have da:=h! hP.vals
  have az:Hid (In64 p.id/\In64 p.typ):=h! ⟨hP.id64,hP.typ64⟩
  obtain ⟨m0,m1,m2,m3,r1,r2,r3,r4⟩:=hP.below HW.out eo
  have dh:=h! (mG x.phis j p bm)
  clear bm hP r1 r2 r3 r4
  have bi:=aq.out.lt
  have bb:Hid (∀ k,ST k -> k < w4.heap.size):=h! ad.out.lt
  have ek:w.heap.size+3 <= w4.heap.size:=by omega
  replace ad:=h! (ad.out.more (aB w4.heap.size))
  replace aq:=h! (aq.out.more (aB w4.heap.size))
  go_upto_region 7 with (fail)
  have bw:w4.heap.size ≠ w.heap.size:=fun e=>by have:=ag;omega
  have nB1BP:w.heap.size ≠ w4.heap.size:=fun e=>bw e.symm
  have cn:w4.heap.size ≠ w.heap.size+1:=fun e=>by have:=ah;omega
  have nB2BP:w.heap.size+1 ≠ w4.heap.size:=fun e=>cn e.symm
  have cd:w4.heap.size ≠ w.heap.size+1+1:=fun e=>by have:=ae;omega
  have nB3BP:w.heap.size+1+1 ≠ w4.heap.size:=fun e=>cd e.symm
  clear ag am al ah aj ak ae an ai
  have ar:=(Below.refl w4.heap.size w4).alloc (aB _) (.cells #[.int .i64 p.id,.int .i64 p.typ,.slice af p.src.length cf,.slice cy p.vals.length cB] 78)
  replace B1:=h! (B1.out.later ar)
  replace B2:=h! (B2.out.later ar)
  replace B3:=h! (B3.out.later ar)
  replace ad:=h! (ad.out.later ar)
  replace aq:=h! (aq.out.later ar)
  replace HW:=h! (HW.out.trans (ar.mono HW.out.size))
  clear ar
  have BP:=h! (Box.new w4 #[.int .i64 p.id,.int .i64 p.typ,.slice af p.src.length cf,.slice cy p.vals.length cB] 78)
  generalize w4.alloc (.cells #[.int .i64 p.id,.int .i64 p.typ,.slice af p.src.length cf,.slice cy p.vals.length cB] 78)=w5 at *
  obtain ⟨ag,am,al⟩:=B1.out
  obtain ⟨ah,aj,ak⟩:=B2.out
  obtain ⟨ae,an,ai⟩:=B3.out
  obtain ⟨bh,bg,bf⟩:=BP.out
  have bq:Hid (w4.heap.size < w5.heap.size):=h! BP.out.lt
  have cs:Hid (∀ k,SP k -> k < w4.heap.size):=h! bi
  have bj:Hid (w.heap.size+3 <= w4.heap.size+1):=h! (by omega)
  clear m0 m1 m2 m3
  go_upto_region 8 with (at_builtin;refine jB rfl _ _ rfl rfl rfl (di.out.below HW.out) ?_;intro a2 c2 dc S2 q1 q2 q3;have cL:=BP.out.later q3;obtain ⟨lx,cx,fx⟩:=cL)
  clear lx cx fx
  have ba:Hid (Holds [w4.heap.size] (w4.heap.size+1) dc S2 (fun W=>eU W S2 (.slice a2 p.src.length c2) p.src)):=h! (((gH q1 q2).from bq.out).low (by simp))
  clear q1 q2
  clear ag am al ah aj ak ae an ai bh bg bf
  replace B1:=h! (B1.out.later q3)
  replace B2:=h! (B2.out.later q3)
  replace B3:=h! (B3.out.later q3)
  replace BP:=h! (BP.out.later q3)
  replace ad:=h! (ad.out.later q3)
  replace aq:=h! (aq.out.later q3)
  replace HW:=h! (HW.out.trans (q3.mono HW.out.size))
  clear q3
  obtain ⟨ag,am,al⟩:=B1.out
  obtain ⟨ah,aj,ak⟩:=B2.out
  obtain ⟨ae,an,ai⟩:=B3.out
  obtain ⟨bh,bg,bf⟩:=BP.out
  clear ag am al ah aj ak ae an ai bh bg bf
  have ao:=(Only.set dc (w4.heap.size) 2 (.slice a2 p.src.length c2))
  replace B1:=h! (B1.out.only ao (by first | assumption | (simp;done) | omega))
  replace B2:=h! (B2.out.only ao (by first | assumption | (simp;done) | omega))
  replace B3:=h! (B3.out.only ao (by first | assumption | (simp;done) | omega))
  replace ad:=h! (ad.out.other (p:=⟨w4.heap.size,2,none⟩) (.slice a2 p.src.length c2) (by simp))
  replace aq:=h! (aq.out.other (p:=⟨w4.heap.size,2,none⟩) (.slice a2 p.src.length c2) (by simp))
  replace ba:=h! (ba.out.other (p:=⟨w4.heap.size,2,none⟩) (.slice a2 p.src.length c2) (by simp))
  replace HW:=h! (ao.2.2 HW.out (by first | assumption | omega | (have:=HW.out.size;omega) | (simp;done) | (simp;omega)))
  replace BP:=h! (Box.to (A':=#[.int .i64 p.id,.int .i64 p.typ,(.slice a2 p.src.length c2),.slice cy p.vals.length cB]) (BP.out.set 2 (.slice a2 p.src.length c2)) (by first | rfl | simp))
  clear ao
  generalize (dc.setCell ⟨w4.heap.size,2,none⟩ (.slice a2 p.src.length c2))=er at *
  obtain ⟨ag,am,al⟩:=B1.out
  obtain ⟨ah,aj,ak⟩:=B2.out
  obtain ⟨ae,an,ai⟩:=B3.out
  obtain ⟨bh,bg,bf⟩:=BP.out
  have ed:=h! ba.out.lt
  have dv:Hid (w4.heap.size+1 <= er.heap.size):=h! BP.out.lt
  go_upto_region 9 with (at_builtin;refine jB rfl _ _ rfl rfl rfl (da.out.below HW.out) ?_;intro a5 c5 dm S5 q1 q2 q3;have cL:=BP.out.later q3;obtain ⟨lx,cx,fx⟩:=cL)
  clear lx cx fx
  have bk:Hid (Holds [w4.heap.size] (w4.heap.size+1) dm S5 (fun W=>eU W S5 (.slice a5 p.vals.length c5) p.vals)):=h! (((gH q1 q2).from dv.out).low (by simp))
  have eb:Hid (S5.off S2):=h! (fun k h1 h2=>by have:=ed.out k h2;have:=q2 k h1;omega)
  clear q1 q2 ed dv
  clear ag am al ah aj ak ae an ai bh bg bf
  replace B1:=h! (B1.out.later q3)
  replace B2:=h! (B2.out.later q3)
  replace B3:=h! (B3.out.later q3)
  replace BP:=h! (BP.out.later q3)
  replace ad:=h! (ad.out.later q3)
  replace aq:=h! (aq.out.later q3)
  replace ba:=h! (ba.out.later q3)
  replace HW:=h! (HW.out.trans (q3.mono HW.out.size))
  clear q3
  obtain ⟨ag,am,al⟩:=B1.out
  obtain ⟨ah,aj,ak⟩:=B2.out
  obtain ⟨ae,an,ai⟩:=B3.out
  obtain ⟨bh,bg,bf⟩:=BP.out
  clear ag am al ah aj ak ae an ai bh bg bf
  have ao:=(Only.set dm (w4.heap.size) 3 (.slice a5 p.vals.length c5))
  replace B1:=h! (B1.out.only ao (by first | assumption | (simp;done) | omega))
  replace B2:=h! (B2.out.only ao (by first | assumption | (simp;done) | omega))
  replace B3:=h! (B3.out.only ao (by first | assumption | (simp;done) | omega))
  replace ad:=h! (ad.out.other (p:=⟨w4.heap.size,3,none⟩) (.slice a5 p.vals.length c5) (by simp))
  replace aq:=h! (aq.out.other (p:=⟨w4.heap.size,3,none⟩) (.slice a5 p.vals.length c5) (by simp))
  replace ba:=h! (ba.out.other (p:=⟨w4.heap.size,3,none⟩) (.slice a5 p.vals.length c5) (by simp))
  replace bk:=h! (bk.out.other (p:=⟨w4.heap.size,3,none⟩) (.slice a5 p.vals.length c5) (by simp))
  replace HW:=h! (ao.2.2 HW.out (by first | assumption | omega | (have:=HW.out.size;omega) | (simp;done) | (simp;omega)))
  replace BP:=h! (Box.to (A':=#[.int .i64 p.id,.int .i64 p.typ,(.slice a2 p.src.length c2),(.slice a5 p.vals.length c5)]) (BP.out.set 3 (.slice a5 p.vals.length c5)) (by first | rfl | simp))
  clear ao
  generalize (dm.setCell ⟨w4.heap.size,3,none⟩ (.slice a5 p.vals.length c5))=w6 at *
  obtain ⟨ag,am,al⟩:=B1.out
  obtain ⟨ah,aj,ak⟩:=B2.out
  obtain ⟨ae,an,ai⟩:=B3.out
  obtain ⟨bh,bg,bf⟩:=BP.out
  have bo:Hid (Holds [] (w.heap.size+3) w6 (S2.or S5) (fun W=>OPhi W (S2.or S5) [.int .i64 p.id,.int .i64 p.typ,.slice a2 p.src.length c2,.slice a5 p.vals.length c5] p)):=h!
   (iN OPhi.nice ⟨⟨_,_,S2,S5,rfl,ba.out.now,bk.out.now,eb.out.symm,fun k h=>.inl h,fun k h=>.inr h⟩,fun k hk=>hk.elim (ba.out.lt k) (bk.out.lt k),az.out.1,az.out.2⟩ (fun k hk=>by have:=bj.out;rcases hk with hk | hk;exact bE bj.out (ba.out.base k hk);exact bE bj.out (bk.out.base k hk)))
  have cg:Hid ((S2.or S5).off SP):=h! (fun k h1 h2=>by
   have h3:=cs.out k h2
   rcases h1 with h1 | h1
   ·have:=ba.out.base k h1;have:=bq.out;omega
   have:=bk.out.base k h1;have:=bq.out;omega)
  replace aq:=h! (aq.out.less (bs':=[w.heap.size,w.heap.size+1,w.heap.size+1+1]) (fun b hb=>bK _ hb))
  replace ad:=h! (ad.out.less (bs':=[w.heap.size,w.heap.size+1,w.heap.size+1+1]) (fun b hb=>bK _ hb))
  have dl:Hid ((x.phis.take j).length=j):=h! (by rw [aV];have:=cM.out;omega)
  have dd:w.heap.size+3 <= w6.heap.size:=by have:=ae;omega
  have dz:Hid ((S2.or S5).off ST):=h! (fun k h1 h2=>by
   have h3:=bb.out k h2
   rcases h1 with h1 | h1
   ·have:=ba.out.base k h1;have:=bq.out;omega
   have:=bk.out.base k h1;have:=bq.out;omega)
  have bd:=h! ad.out.lt
  clear ba bk eb bq bj bb
  go_upto_region 5 with (at_builtin;refine iW OPhi.nice rfl _ _ 58 78 rfl aF7 rfl rfl dl.out (aq.out.alloc _) (Box.new _ _ _) rfl (bo.out.alloc _).now cg.out bo.out.base (by intro b hb;simp at hb;omega) (by simp;omega) (by simp [Value.oneCell']) (by omega) (by omega) ?_;intro v2 w7 dw q1 q2 q3 q4;obtain ⟨g2,c2,rfl⟩:=q4;have cw:=(B3.out.alloc _).off q3 (fun h=>aq.out.free _ h (by simp));obtain ⟨lx,cx,fx⟩:=cw)
  clear lx cx fx
  clear ag am al ah aj ak ae an ai bh bg bf
  replace B1:=h! ((B1.out.alloc _).off q3 (fun h=>aq.out.free _ h (by simp)))
  replace B2:=h! ((B2.out.alloc _).off q3 (fun h=>aq.out.free _ h (by simp)))
  replace B3:=h! ((B3.out.alloc _).off q3 (fun h=>aq.out.free _ h (by simp)))
  replace ad:=h! ((ad.out.alloc _).off q3 (fun k h1 h2=>cb.out k h2 h1))
  replace HW:=h! ((HW.out.alloc HW.out.size _).trans (q3.below (by simp;have:=HW.out.size;omega) (fun k _ hk=>by have:=aq.out.base k hk;omega)))
  replace cb:Hid (dw.off ST):=h! (fun k h1 h2=>by
   rcases q2 k h1 with h3 | h3 | h3
   ·exact cb.out k h3 h2
   ·exact dz.out k h3 h2
   have:=bd.out k h2;simp at h3;omega)
  clear aq BP
  have aq:=h! q1
  clear q1 q2 q3 dd bo cg bd dz cs
  obtain ⟨ag,am,al⟩:=B1.out
  obtain ⟨ah,aj,ak⟩:=B2.out
  obtain ⟨ae,an,ai⟩:=B3.out
  clear ag am al ah aj ak ae an ai
  have ao:=(Only.set w7 (w.heap.size+1+1) 0 (.slice (some ⟨g2,0,none⟩) (j+1) c2))
  replace B1:=h! (B1.out.only ao (by first | assumption | (simp;done) | omega))
  replace B2:=h! (B2.out.only ao (by first | assumption | (simp;done) | omega))
  replace ad:=h! (ad.out.other (p:=⟨w.heap.size+1+1,0,none⟩) (.slice (some ⟨g2,0,none⟩) (j+1) c2) (by simp))
  replace aq:=h! (aq.out.other (p:=⟨w.heap.size+1+1,0,none⟩) (.slice (some ⟨g2,0,none⟩) (j+1) c2) (by simp))
  replace HW:=h! (ao.2.2 HW.out (by first | assumption | omega | (have:=HW.out.size;omega) | (simp;done) | (simp;omega)))
  replace B3:=h! (Box.to (A':=#[(.slice (some ⟨g2,0,none⟩) (j+1) c2),.slice none 0 0,.int .i64 op,.int .i64 val,.slice ay tl ax,.int .i64 tn]) (B3.out.set 0 (.slice (some ⟨g2,0,none⟩) (j+1) c2)) (by first | rfl | simp))
  clear ao
  generalize (w7.setCell ⟨w.heap.size+1+1,0,none⟩ (.slice (some ⟨g2,0,none⟩) (j+1) c2))=w8 at *
  obtain ⟨ag,am,al⟩:=B1.out
  obtain ⟨ah,aj,ak⟩:=B2.out
  obtain ⟨ae,an,ai⟩:=B3.out
  rw [<-dh.out] at aq
  go_wp2
  go_roundw
  case rel=>exact ⟨j+1,.slice (some ⟨g2,0,none⟩) (j+1) c2,dw,hlt,by go_num,HW.out,B1.out,B2.out,B3.out,ad.out,aq.out,cb.out,_,_,rfl⟩
  simp [intOf];omega
 have dq:j=pl:=by omega
 have ab:Hid (Holds [w.heap.size,w.heap.size+1,w.heap.size+1+1] (w.heap.size+3) w4 SP (fun W=>fS W SP (.slice av pl cv) x.phis)):=h! (by
  have h9:=aq.out
  rw [aH (by have:=cM.out;omega),dq] at h9
  exact h9)
 rw [dq] at B3
 clear aq ds dq
 clear ag am al ah aj ak ae an ai
 obtain ⟨ag,am,al⟩:=B1.out
 obtain ⟨ah,aj,ak⟩:=B2.out
 obtain ⟨ae,an,ai⟩:=B3.out
 go_wp2_with fail
 go_loopw [6] (fun i wr => ∃ (j:Nat) (uj:Value) (SI:Foot),j <= cl/\i = .int .i64 j/\Below w.heap.size w wr/\Box wr w.heap.size #[.slice ap pl cp,.slice ac cl cc,.int .i64 op,.int .i64 val,.slice ta tl tc,.int .i64 tn]/\Box wr (w.heap.size+1) #[.slice none 0 0,.slice none 0 0,.int .i64 0,.int .i64 0,.slice none 0 0,.int .i64 0]/\Box wr (w.heap.size+1+1) #[.slice av pl cv,uj,.int .i64 op,.int .i64 val,.slice ay tl ax,.int .i64 tn] /\
   Holds [w.heap.size,w.heap.size+1,w.heap.size+1+1] (w.heap.size+3) wr ST (fun W=>eU W ST (.slice ay tl ax) x.term.to)/\Holds [w.heap.size,w.heap.size+1,w.heap.size+1+1] (w.heap.size+3) wr SP (fun W=>fS W SP (.slice av pl cv) x.phis) /\
   Holds [w.heap.size,w.heap.size+1,w.heap.size+1+1] (w.heap.size+3) wr SI (fun W=>gL W SI uj (x.code.take j))/\SI.off ST/\SI.off SP/\(∃ a c,uj = .slice a j c)) (fun i _=>cl - (intOf i).toNat)
 case atStart=>exact ⟨0,.slice none 0 0,Foot.none,aJ _,rfl,HW.out,B1.out,B2.out,B3.out,ad.out,ab.out,⟨OSl.nil none,fun _ _ h hk=>h.keep OInstr.nice hk,fun k h=>h.elim,fun k h=>h.elim,fun k h=>h.elim⟩,fun k h=>h.elim,fun k h=>h.elim,_,_,rfl⟩
 obtain ⟨k,uj,SI,hj,rfl,hW,h1,h2,h3,h4,h5,h6,h7,h8,au,cu,rfl⟩:=hrel
 clear ag am al ah aj ak ae an ai
 replace HW:=h! hW
 replace B1:=h! h1
 replace B2:=h! h2
 replace B3:=h! h3
 replace ad:=h! h4
 replace ab:=h! h5
 have aw:=h! h6
 have bv:=h! h7
 have ce:=h! h8
 clear hW h1 h2 h3 h4 h5 h6 h7 h8
 generalize wr=w5 at *
 obtain ⟨ag,am,al⟩:=B1.out
 obtain ⟨ah,aj,ak⟩:=B2.out
 obtain ⟨ae,an,ai⟩:=B3.out
 by_cases hlt2:k < cl
 ·obtain ⟨rfl,ei⟩:=ee.out (by omega)
  obtain ⟨y,bm⟩ : ∃ y,x.code[k]? = some y:=⟨_,aC (by have:=dk.out;omega)⟩
  obtain ⟨aa,ca,hP⟩:=ec.out k y bm
  have db:=h! hP.args
  have az:Hid (In64 y.op/\In64 y.id/\In64 y.n):=h! ⟨hP.op64,hP.id64,hP.n64⟩
  obtain ⟨m0,m1,m2,m3,r1,r2,r3,r4⟩:=hP.below HW.out ei
  have dh:=h! (mG x.code k y bm)
  clear bm hP r1 r2 r3 r4
  have bi:Hid (∀ q,SI q -> q < w5.heap.size):=h! aw.out.lt
  have ck:Hid (∀ q,SP q -> q < w5.heap.size):=h! ab.out.lt
  have bb:Hid (∀ q,ST q -> q < w5.heap.size):=h! ad.out.lt
  have ek:w.heap.size+3 <= w5.heap.size:=by omega
  replace ad:=h! (ad.out.more (aB w5.heap.size))
  replace ab:=h! (ab.out.more (aB w5.heap.size))
  replace aw:=h! (aw.out.more (aB w5.heap.size))
  go_upto_region 14 with (fail)
  have co:w5.heap.size ≠ w.heap.size:=fun e=>by have:=ag;omega
  have nB1BI:w.heap.size ≠ w5.heap.size:=fun e=>co e.symm
  have cj:w5.heap.size ≠ w.heap.size+1:=fun e=>by have:=ah;omega
  have nB2BI:w.heap.size+1 ≠ w5.heap.size:=fun e=>cj e.symm
  have br:w5.heap.size ≠ w.heap.size+1+1:=fun e=>by have:=ae;omega
  have nB3BI:w.heap.size+1+1 ≠ w5.heap.size:=fun e=>br e.symm
  clear ag am al ah aj ak ae an ai
  have ar:=(Below.refl w5.heap.size w5).alloc (aB _) (.cells #[.int .i64 y.op,.int .i64 y.id,.slice aa y.args.length ca,.int .i64 y.n] 82)
  replace B1:=h! (B1.out.later ar)
  replace B2:=h! (B2.out.later ar)
  replace B3:=h! (B3.out.later ar)
  replace ad:=h! (ad.out.later ar)
  replace ab:=h! (ab.out.later ar)
  replace aw:=h! (aw.out.later ar)
  replace HW:=h! (HW.out.trans (ar.mono HW.out.size))
  clear ar
  have BI:=h! (Box.new w5 #[.int .i64 y.op,.int .i64 y.id,.slice aa y.args.length ca,.int .i64 y.n] 82)
  generalize w5.alloc (.cells #[.int .i64 y.op,.int .i64 y.id,.slice aa y.args.length ca,.int .i64 y.n] 82)=w6 at *
  obtain ⟨ag,am,al⟩:=B1.out
  obtain ⟨ah,aj,ak⟩:=B2.out
  obtain ⟨ae,an,ai⟩:=B3.out
  obtain ⟨ct,bt,cq⟩:=BI.out
  have dj:Hid (w5.heap.size < w6.heap.size):=h! BI.out.lt
  clear m0 m1 m2 m3
  go_upto_region 15 with (at_builtin;refine jB rfl _ _ rfl rfl rfl (db.out.below HW.out) ?_;intro a2 c2 w7 SA q1 q2 q3;have eh:=BI.out.later q3;obtain ⟨lx,cx,fx⟩:=eh)
  clear lx cx fx
  have ci:Hid (Holds [w5.heap.size] w6.heap.size w7 SA (fun W=>eU W SA (.slice a2 y.args.length c2) y.args)):=h! ((gH q1 q2).low (by simp;exact dj.out))
  clear q1 q2
  clear ag am al ah aj ak ae an ai ct bt cq
  replace B1:=h! (B1.out.later q3)
  replace B2:=h! (B2.out.later q3)
  replace B3:=h! (B3.out.later q3)
  replace BI:=h! (BI.out.later q3)
  replace ad:=h! (ad.out.later q3)
  replace ab:=h! (ab.out.later q3)
  replace aw:=h! (aw.out.later q3)
  replace HW:=h! (HW.out.trans (q3.mono HW.out.size))
  clear q3
  obtain ⟨ag,am,al⟩:=B1.out
  obtain ⟨ah,aj,ak⟩:=B2.out
  obtain ⟨ae,an,ai⟩:=B3.out
  obtain ⟨ct,bt,cq⟩:=BI.out
  clear ag am al ah aj ak ae an ai ct bt cq
  have ao:=(Only.set w7 (w5.heap.size) 2 (.slice a2 y.args.length c2))
  replace B1:=h! (B1.out.only ao (by first | assumption | (simp;done) | omega))
  replace B2:=h! (B2.out.only ao (by first | assumption | (simp;done) | omega))
  replace B3:=h! (B3.out.only ao (by first | assumption | (simp;done) | omega))
  replace ad:=h! (ad.out.other (p:=⟨w5.heap.size,2,none⟩) (.slice a2 y.args.length c2) (by simp))
  replace ab:=h! (ab.out.other (p:=⟨w5.heap.size,2,none⟩) (.slice a2 y.args.length c2) (by simp))
  replace aw:=h! (aw.out.other (p:=⟨w5.heap.size,2,none⟩) (.slice a2 y.args.length c2) (by simp))
  replace ci:=h! (ci.out.other (p:=⟨w5.heap.size,2,none⟩) (.slice a2 y.args.length c2) (by simp))
  replace HW:=h! (ao.2.2 HW.out (by first | assumption | omega | (have:=HW.out.size;omega) | (simp;done) | (simp;omega)))
  replace BI:=h! (Box.to (A':=#[.int .i64 y.op,.int .i64 y.id,(.slice a2 y.args.length c2),.int .i64 y.n]) (BI.out.set 2 (.slice a2 y.args.length c2)) (by first | rfl | simp))
  clear ao
  generalize (w7.setCell ⟨w5.heap.size,2,none⟩ (.slice a2 y.args.length c2))=w8 at *
  obtain ⟨ag,am,al⟩:=B1.out
  obtain ⟨ah,aj,ak⟩:=B2.out
  obtain ⟨ae,an,ai⟩:=B3.out
  obtain ⟨ct,bt,cq⟩:=BI.out
  have cr:Hid (∀ q,SA q -> w5.heap.size < q):=h! (fun q hq=>by have:=ci.out.base q hq;have:=dj.out;omega)
  have bo:Hid (Holds [] (w.heap.size+3) w8 SA (fun W=>OInstr W SA [.int .i64 y.op,.int .i64 y.id,.slice a2 y.args.length c2,.int .i64 y.n] y)):=h!
   (iN OInstr.nice ⟨⟨_,rfl,ci.out.now⟩,az.out.1,az.out.2.1,az.out.2.2⟩ (fun q hq=>by have:=cr.out q hq;omega))
  have cg:Hid (SA.off SI):=h! (fun q h1 h2=>by have:=bi.out q h2;have:=cr.out q h1;omega)
  have dx:Hid (SA.off SP):=h! (fun q h1 h2=>by have:=ck.out q h2;have:=cr.out q h1;omega)
  have dy:Hid (SA.off ST):=h! (fun q h1 h2=>by have:=bb.out q h2;have:=cr.out q h1;omega)
  replace ab:=h! (ab.out.less (bs':=[w.heap.size,w.heap.size+1,w.heap.size+1+1]) (fun b hb=>bK _ hb))
  replace aw:=h! (aw.out.less (bs':=[w.heap.size,w.heap.size+1,w.heap.size+1+1]) (fun b hb=>bK _ hb))
  replace ad:=h! (ad.out.less (bs':=[w.heap.size,w.heap.size+1,w.heap.size+1+1]) (fun b hb=>bK _ hb))
  have dl:Hid ((x.code.take k).length=k):=h! (by rw [aV];have:=dk.out;omega)
  have dd:w.heap.size+3 <= w8.heap.size:=by have:=ae;omega
  have bd:=h! ad.out.lt
  have ch:=h! ab.out.lt
  clear ci dj cr
  go_upto_region 12 with (at_builtin;refine iW OInstr.nice rfl _ _ 59 82 rfl aBI rfl rfl dl.out (aw.out.alloc _) (Box.new _ _ _) rfl (bo.out.alloc _).now cg.out bo.out.base (by intro b hb;simp at hb;omega) (by simp;omega) (by simp [Value.oneCell']) (by omega) (by omega) ?_;intro v2 w9 de q1 q2 q3 q4;obtain ⟨g3,c3,rfl⟩:=q4;have cw:=(B3.out.alloc _).off q3 (fun h=>aw.out.free _ h (by simp));obtain ⟨lx,cx,fx⟩:=cw)
  clear lx cx fx
  clear ag am al ah aj ak ae an ai ct bt cq
  replace B1:=h! ((B1.out.alloc _).off q3 (fun h=>aw.out.free _ h (by simp)))
  replace B2:=h! ((B2.out.alloc _).off q3 (fun h=>aw.out.free _ h (by simp)))
  replace B3:=h! ((B3.out.alloc _).off q3 (fun h=>aw.out.free _ h (by simp)))
  replace ad:=h! ((ad.out.alloc _).off q3 (fun k h1 h2=>bv.out k h2 h1))
  replace ab:=h! ((ab.out.alloc _).off q3 (fun k h1 h2=>ce.out k h2 h1))
  replace HW:=h! ((HW.out.alloc HW.out.size _).trans (q3.below (by simp;have:=HW.out.size;omega) (fun k _ hk=>by have:=aw.out.base k hk;omega)))
  replace bv:Hid (de.off ST):=h! (fun k h1 h2=>by
   rcases q2 k h1 with h3 | h3 | h3
   ·exact bv.out k h3 h2
   ·exact dy.out k h3 h2
   have:=bd.out k h2;simp at h3;omega)
  replace ce:Hid (de.off SP):=h! (fun k h1 h2=>by
   rcases q2 k h1 with h3 | h3 | h3
   ·exact ce.out k h3 h2
   ·exact dx.out k h3 h2
   have:=ch.out k h2;simp at h3;omega)
  clear aw BI
  have aw:=h! q1
  clear q1 q2 q3 dd bo cg bd ch dy dx bi ck bb
  obtain ⟨ag,am,al⟩:=B1.out
  obtain ⟨ah,aj,ak⟩:=B2.out
  obtain ⟨ae,an,ai⟩:=B3.out
  clear ag am al ah aj ak ae an ai
  have ao:=(Only.set w9 (w.heap.size+1+1) 1 (.slice (some ⟨g3,0,none⟩) (k+1) c3))
  replace B1:=h! (B1.out.only ao (by first | assumption | (simp;done) | omega))
  replace B2:=h! (B2.out.only ao (by first | assumption | (simp;done) | omega))
  replace ad:=h! (ad.out.other (p:=⟨w.heap.size+1+1,1,none⟩) (.slice (some ⟨g3,0,none⟩) (k+1) c3) (by simp))
  replace ab:=h! (ab.out.other (p:=⟨w.heap.size+1+1,1,none⟩) (.slice (some ⟨g3,0,none⟩) (k+1) c3) (by simp))
  replace aw:=h! (aw.out.other (p:=⟨w.heap.size+1+1,1,none⟩) (.slice (some ⟨g3,0,none⟩) (k+1) c3) (by simp))
  replace HW:=h! (ao.2.2 HW.out (by first | assumption | omega | (have:=HW.out.size;omega) | (simp;done) | (simp;omega)))
  replace B3:=h! (Box.to (A':=#[.slice av pl cv,(.slice (some ⟨g3,0,none⟩) (k+1) c3),.int .i64 op,.int .i64 val,.slice ay tl ax,.int .i64 tn]) (B3.out.set 1 (.slice (some ⟨g3,0,none⟩) (k+1) c3)) (by first | rfl | simp))
  clear ao
  generalize (w9.setCell ⟨w.heap.size+1+1,1,none⟩ (.slice (some ⟨g3,0,none⟩) (k+1) c3))=w10 at *
  obtain ⟨ag,am,al⟩:=B1.out
  obtain ⟨ah,aj,ak⟩:=B2.out
  obtain ⟨ae,an,ai⟩:=B3.out
  rw [<-dh.out] at aw
  go_wp2
  go_roundw
  case rel=>exact ⟨k+1,.slice (some ⟨g3,0,none⟩) (k+1) c3,de,hlt2,by go_num,HW.out,B1.out,B2.out,B3.out,ad.out,ab.out,aw.out,bv.out,ce.out,_,_,rfl⟩
  simp [intOf];omega
 have dr:k=cl:=by omega
 have be:Hid (Holds [w.heap.size,w.heap.size+1,w.heap.size+1+1] (w.heap.size+3) w5 SI (fun W=>gL W SI (.slice au cl cu) x.code)):=h! (by
  have h9:=aw.out
  rw [aH (by have:=dk.out;omega),dr] at h9
  exact h9)
 rw [dr] at B3
 clear aw dr ec
 clear ag am al ah aj ak ae an ai
 obtain ⟨ag,am,al⟩:=B1.out
 obtain ⟨ah,aj,ak⟩:=B2.out
 obtain ⟨ae,an,ai⟩:=B3.out
 go_wp2
 clear ag am al ah aj ak ae an ai
 have ao:=((((((Only.set w5 (w.heap.size+1) 0 (.slice av pl cv)).put 1 (.slice au cl cu)).put 2 (.int .i64 op)).put 3 (.int .i64 val)).put 4 (.slice ay tl ax)).put 5 (.int .i64 tn))
 replace B1:=h! (B1.out.only ao (by first | assumption | (simp;done) | omega))
 replace B3:=h! (B3.out.only ao (by first | assumption | (simp;done) | omega))
 replace ad:=h! ((((((ad.out.other (p:=⟨w.heap.size+1,0,none⟩) (.slice av pl cv) (by simp)).other (p:=⟨w.heap.size+1,1,none⟩) (.slice au cl cu) (by simp)).other (p:=⟨w.heap.size+1,2,none⟩) (.int .i64 op) (by simp)).other (p:=⟨w.heap.size+1,3,none⟩) (.int .i64 val) (by simp)).other (p:=⟨w.heap.size+1,4,none⟩) (.slice ay tl ax) (by simp)).other (p:=⟨w.heap.size+1,5,none⟩) (.int .i64 tn) (by simp))
 replace ab:=h! ((((((ab.out.other (p:=⟨w.heap.size+1,0,none⟩) (.slice av pl cv) (by simp)).other (p:=⟨w.heap.size+1,1,none⟩) (.slice au cl cu) (by simp)).other (p:=⟨w.heap.size+1,2,none⟩) (.int .i64 op) (by simp)).other (p:=⟨w.heap.size+1,3,none⟩) (.int .i64 val) (by simp)).other (p:=⟨w.heap.size+1,4,none⟩) (.slice ay tl ax) (by simp)).other (p:=⟨w.heap.size+1,5,none⟩) (.int .i64 tn) (by simp))
 replace be:=h! ((((((be.out.other (p:=⟨w.heap.size+1,0,none⟩) (.slice av pl cv) (by simp)).other (p:=⟨w.heap.size+1,1,none⟩) (.slice au cl cu) (by simp)).other (p:=⟨w.heap.size+1,2,none⟩) (.int .i64 op) (by simp)).other (p:=⟨w.heap.size+1,3,none⟩) (.int .i64 val) (by simp)).other (p:=⟨w.heap.size+1,4,none⟩) (.slice ay tl ax) (by simp)).other (p:=⟨w.heap.size+1,5,none⟩) (.int .i64 tn) (by simp))
 replace HW:=h! (ao.2.2 HW.out (by first | assumption | omega | (have:=HW.out.size;omega) | (simp;done) | (simp;omega)))
 replace B2:=h! (Box.to (A':=#[(.slice av pl cv),(.slice au cl cu),(.int .i64 op),(.int .i64 val),(.slice ay tl ax),(.int .i64 tn)]) ((((((B2.out.set 0 (.slice av pl cv)).set 1 (.slice au cl cu)).set 2 (.int .i64 op)).set 3 (.int .i64 val)).set 4 (.slice ay tl ax)).set 5 (.int .i64 tn)) (by first | rfl | simp))
 clear ao
 generalize ((((((w5.setCell ⟨w.heap.size+1,0,none⟩ (.slice av pl cv)).setCell ⟨w.heap.size+1,1,none⟩ (.slice au cl cu)).setCell ⟨w.heap.size+1,2,none⟩ (.int .i64 op)).setCell ⟨w.heap.size+1,3,none⟩ (.int .i64 val)).setCell ⟨w.heap.size+1,4,none⟩ (.slice ay tl ax)).setCell ⟨w.heap.size+1,5,none⟩ (.int .i64 tn))=w6 at *
 obtain ⟨ag,am,al⟩:=B1.out
 obtain ⟨ah,aj,ak⟩:=B2.out
 obtain ⟨ae,an,ai⟩:=B3.out
 refine bodyPost_ret (v:=.agg #[.slice av pl cv,.slice au cl cu,.int .i64 op,.int .i64 val,.slice ay tl ax,.int .i64 tn]) (by simp [results,Tryz.results80,go_sem, *]) rfl ⟨_,_,_,fun q=>(SP q \/ SI q) \/ ST q,rfl,⟨⟨_,_,_,SP,SI,ST,rfl,ab.out.now,be.out.now, ?_,fun k h1 h2=>ce.out k h2 h1,cb.out,bv.out,fun k h=>.inl (.inl h),fun k h=>.inl (.inr h),fun k h=>.inr h⟩,fun k hk => ?_⟩,fun k hk => ?_,HW.out⟩
 ·obtain ⟨e1,e2,e3⟩:=ep.out
  rw [e1,e2,e3]
  exact ⟨⟨_,rfl,ad.out.now⟩,HX.out.op,HX.out.val,HX.out.n⟩
 ·rcases hk with (hk | hk) | hk
  ·exact ab.out.lt k hk
  ·exact be.out.lt k hk
  exact ad.out.lt k hk
 rcases hk with (hk | hk) | hk
 ·have:=ab.out.base k hk;omega
 ·have:=be.out.base k hk;omega
 have:=ad.out.base k hk;omega
end Go.Proofs.YtagabiidbbhhmaaGreat
