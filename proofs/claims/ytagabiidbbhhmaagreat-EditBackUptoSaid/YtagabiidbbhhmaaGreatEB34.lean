/- Part 34. -/
import Derived.Test.YtagabiidbbhhmaaGreatEB33
namespace Go.Proofs.YtagabiidbbhhmaaGreat
set_option maxHeartbeats 6400000
set_option linter.all false
open Go.RowKit
theorem vU (x y:BlockD):decide (x=y)=(((((decide (x.phis=y.phis) && decide (x.code=y.code)) && (x.term.op == y.term.op)) && (x.term.val == y.term.val)) && (x.term.n == y.term.n)) && decide (x.term.to=y.term.to)):=by
 rcases x with ⟨a,b,⟨c,d,e,f⟩⟩
 rcases y with ⟨a',b',⟨c',d',e',f'⟩⟩
 rw [bU]
 simp only [decide_eq_true_eq,aK,beq_iff_eq,BlockD.mk.injEq,TermD.mk.injEq]
 constructor
 ·rintro ⟨rfl,rfl,rfl,rfl,rfl,rfl⟩;simp
 rintro ⟨⟨⟨⟨⟨rfl,rfl⟩,rfl⟩,rfl⟩,rfl⟩,rfl⟩;simp
theorem yR (x y:FuncD):decide (x=y)=((((x.arrays == y.arrays) && (x.cells == y.cells)) && decide (x.params=y.params)) && decide (x.blocks=y.blocks)):=by
 rcases x with ⟨a,b,c,d⟩
 rcases y with ⟨a',b',c',d'⟩
 rw [bU]
 simp only [decide_eq_true_eq,aK,beq_iff_eq,FuncD.mk.injEq]
 constructor
 ·rintro ⟨rfl,rfl,rfl,rfl⟩;simp
 rintro ⟨⟨⟨rfl,rfl⟩,rfl⟩,rfl⟩;simp
theorem vV {w:World} {v v' : Value} {x y:BlockD} (hx:BlockV w v x) (hy:BlockV w v' y):Calls Tryz.prog 83 #[v,v'] w fun e w'=>e = .returned (.bool (decide (x=y)))/\Below w.heap.size w w':=by
 obtain ⟨⟨pv,uv,tv,rfl,hp,hc,ht⟩, -, -, -⟩:=hx
 obtain ⟨⟨pv',uv',tv',rfl,hp',hc',ht'⟩, -, -, -⟩:=hy
 obtain ⟨pa,pc,rfl⟩:=hp.form
 obtain ⟨ua,uc,rfl⟩:=hc.form
 obtain ⟨ta,tc,rfl⟩:=ht.form
 obtain ⟨pa',pc',rfl⟩:=hp'.form
 obtain ⟨ua',uc',rfl⟩:=hc'.form
 obtain ⟨ta',tc',rfl⟩:=ht'.form
 have HP:=h! (And.intro hp hp')
 have HC:=h! (And.intro hc hc')
 have HT:=h! (And.intro ht ht')
 obtain ⟨r,hr⟩ : ∃ r,r=decide (x=y):=⟨_,rfl⟩
 obtain ⟨d1,hd1⟩ : ∃ r,r=decide (x.phis=y.phis):=⟨_,rfl⟩
 obtain ⟨d2,hd2⟩ : ∃ r,r=decide (x.code=y.code):=⟨_,rfl⟩
 obtain ⟨d3,hd3⟩ : ∃ r,r=decide (x.term.to=y.term.to):=⟨_,rfl⟩
 rw [<-hr]
 rw [vU, <-hd1, <-hd2, <-hd3] at hr
 have HR:=h! hr
 have HD:=h! (And.intro hd1 (And.intro hd2 hd3))
 clear hp hc ht hp' hc' ht' hr hd1 hd2 hd3
 go_enter Tryz.func83,Tryz.ntmps83
 go_upto_region 1 with (fail)
 have hA_:=(Below.refl w.heap.size w).alloc (aA _) (.cells #[.slice pa x.phis.length pc,.slice ua x.code.length uc,.int .i64 x.term.op,.int .i64 x.term.val,.slice ta x.term.to.length tc,.int .i64 x.term.n] 63)
 have HW:=h! hA_
 clear hA_
 have B1:=h! (Box.new w #[.slice pa x.phis.length pc,.slice ua x.code.length uc,.int .i64 x.term.op,.int .i64 x.term.val,.slice ta x.term.to.length tc,.int .i64 x.term.n] 63)
 have hz0_:(w.alloc (.cells #[.slice pa x.phis.length pc,.slice ua x.code.length uc,.int .i64 x.term.op,.int .i64 x.term.val,.slice ta x.term.to.length tc,.int .i64 x.term.n] 63)).heap.size=w.heap.size+1:=World.size_alloc _ _
 generalize w.alloc (.cells #[.slice pa x.phis.length pc,.slice ua x.code.length uc,.int .i64 x.term.op,.int .i64 x.term.val,.slice ta x.term.to.length tc,.int .i64 x.term.n] 63)=wv0 at *
 have hA_:=(Below.refl wv0.heap.size wv0).alloc (aA _) (.cells #[.slice pa' y.phis.length pc',.slice ua' y.code.length uc',.int .i64 y.term.op,.int .i64 y.term.val,.slice ta' y.term.to.length tc',.int .i64 y.term.n] 63)
 replace B1:=h! (B1.out.later hA_)
 replace HW:=h! (HW.out.trans (hA_.mono HW.out.size))
 clear hA_
 have B2:=h! (Box.new wv0 #[.slice pa' y.phis.length pc',.slice ua' y.code.length uc',.int .i64 y.term.op,.int .i64 y.term.val,.slice ta' y.term.to.length tc',.int .i64 y.term.n] 63)
 rw [hz0_] at B2
 clear hz0_
 generalize wv0.alloc (.cells #[.slice pa' y.phis.length pc',.slice ua' y.code.length uc',.int .i64 y.term.op,.int .i64 y.term.val,.slice ta' y.term.to.length tc',.int .i64 y.term.n] 63)=wv at *
 obtain ⟨lB1,cB1,fB1⟩:=B1.out
 obtain ⟨lB2,cB2,fB2⟩:=B2.out
 go_wp2_with fail
 refine (aFJ (HP.out.1.below PhiR.lasting HW.out) (HP.out.2.below PhiR.lasting HW.out)).mono ?_
 rintro e w2 ⟨rfl,hb⟩
 rw [<-HD.out.1]
 clear lB1 cB1 fB1 lB2 cB2 fB2
 replace B1:=h! (B1.out.later hb)
 replace B2:=h! (B2.out.later hb)
 replace HW:=h! (HW.out.trans (hb.mono HW.out.size))
 clear hb
 obtain ⟨lB1,cB1,fB1⟩:=B1.out
 obtain ⟨lB2,cB2,fB2⟩:=B2.out
 go_wp2_with fail
 refine (aFK (HC.out.1.below gY.lasting HW.out) (HC.out.2.below gY.lasting HW.out)).mono ?_
 rintro e w3 ⟨rfl,hb⟩
 rw [<-HD.out.2.1]
 clear lB1 cB1 fB1 lB2 cB2 fB2
 replace B1:=h! (B1.out.later hb)
 replace B2:=h! (B2.out.later hb)
 replace HW:=h! (HW.out.trans (hb.mono HW.out.size))
 clear hb
 obtain ⟨lB1,cB1,fB1⟩:=B1.out
 obtain ⟨lB2,cB2,fB2⟩:=B2.out
 go_upto_region 3 with (fail)
 refine Seven.wp_region_grow 7 (fun kz=>match kz with | 4=>some 6 | _=>none) (fun ν kz=>match kz with | 4=>.holds (Seven.MadeS (fun b=>.pointer (some ⟨b,0,none⟩)) #[.int .i64 0,.int .i64 0,.slice none 0 0,.int .i64 0]) | 5=>.holds (Seven.MadeS (fun b=>.pointer (some ⟨b,0,none⟩)) #[.int .i64 0,.int .i64 0,.slice none 0 0,.int .i64 0]) | 6=>.holds (Seven.FillS (ν 4).1 #[.int .i64 x.term.op,.int .i64 x.term.val,.slice ta x.term.to.length tc,.int .i64 x.term.n]) | _=>.plain) (by kernel_rfl) (by kernel_rfl) ?_ ?_ ?_ (fun ν => ?_)
 ·(intro ν k;(try dsimp only);split <;> first | exact True.intro | (intro u φ w1 w2 D hu ho hoff hDb hlt hn;first | exact Seven.MadeS.off hu ho hoff | (exact hu.off ho hoff)))
 ·(intro ν ν' k h;first | rfl | ((try dsimp only);split <;> first | rfl | (rw [h 4 (by kernel_rfl)])))
 ·(intro j k h;(try dsimp only at h);split at h <;> first | (cases h;done) | (cases h;exact ⟨by kernel_rfl,by omega⟩))
 simp only [aQ,aU,aT,aY]
 iterate 4 (refine Seven.Grow.val (v := ?_) rfl rfl (fun wg hbg hdg => ?_) ?_;rotate_left;(focus ((obtain ⟨lg0,cg0,fg0⟩:=B1.out.later hbg);(obtain ⟨lg1,cg1,fg1⟩:=B2.out.later hbg);clear hbg hdg;first | (go_simp;done) | (go_simp;with_reducible rfl)));simp only [Act.put,aB,aE,aF])
 iterate 2 (refine Seven.Grow.made (T := ?_) rfl rfl (fun wg hbg hdg => ?_) ?_;rotate_left;(focus ((obtain ⟨lg0,cg0,fg0⟩:=B1.out.later hbg);(obtain ⟨lg1,cg1,fg1⟩:=B2.out.later hbg);clear hbg hdg;first | (go_simp;done) | (go_simp;with_reducible rfl)));simp only [Act.put,Seven.Known.val,aB,aE,aF])
 refine Seven.Grow.turns rfl (by intro h;cases h) (fun wg hbg hdg => ?_) ?_
 focus ((have hMz:Seven.MadeS (fun b=>.pointer (some ⟨b,0,none⟩)) #[.int .i64 0,.int .i64 0,.slice none 0 0,.int .i64 0] (ν 4).1 (ν 4).2 wg:=hdg.fact 4 ⟨by kernel_rfl,.inr rfl⟩);(obtain ⟨bz,hbe,hφz,hXz⟩:=hMz);simp only [hbe];refine ⟨_, ?_,Foot.one bz,⟨bz,rfl,fun k=>Iff.rfl,(qN hXz (.int .i64 x.term.op) (.int .i64 x.term.val) (.slice ta x.term.to.length tc) (.int .i64 x.term.n)).2⟩,(qO (qN hXz (.int .i64 x.term.op) (.int .i64 x.term.val) (.slice ta x.term.to.length tc) (.int .i64 x.term.n)).1).mono (fun q _ hq=>⟨4,rfl,(hφz q).2 hq⟩),fun q hq=>⟨.inl ⟨4,rfl,(hφz q).2 hq⟩,by cases hq;exact (qN hXz (.int .i64 x.term.op) (.int .i64 x.term.val) (.slice ta x.term.to.length tc) (.int .i64 x.term.n)).2.lt⟩⟩;obtain ⟨lgz,cgz,fgz⟩:=hXz;(obtain ⟨lg0,cg0,fg0⟩:=B1.out.later hbg);(obtain ⟨lg1,cg1,fg1⟩:=B2.out.later hbg);clear hbg hdg;first | (go_simp;done) | (go_simp;with_reducible rfl))
 simp only [Act.put,Seven.Known.val,aB,aE,aF]
 intro wg hb hf
 obtain ⟨bBP,hνBP,hφBP,hXBP⟩:=hf.fact 6 ⟨by omega,rfl⟩
 have hBBP:w3.heap.size <= bBP:=hf.base 6 bBP ⟨by omega,rfl⟩ ((hφBP bBP).2 rfl)
 have nBPB1:bBP ≠ w.heap.size:=fun e=>by have:=lB1;omega
 have nB1BP:w.heap.size ≠ bBP:=fun e=>nBPB1 e.symm
 have nBPB2:bBP ≠ w.heap.size+1:=fun e=>by have:=lB2;omega
 have nB2BP:w.heap.size+1 ≠ bBP:=fun e=>nBPB2 e.symm
 obtain ⟨bBR,hνBR,hφBR,hXBR⟩:=hf.fact 5 ⟨by omega,rfl⟩
 have hBBR:w3.heap.size <= bBR:=hf.base 5 bBR ⟨by omega,rfl⟩ ((hφBR bBR).2 rfl)
 have nBRB1:bBR ≠ w.heap.size:=fun e=>by have:=lB1;omega
 have nB1BR:w.heap.size ≠ bBR:=fun e=>nBRB1 e.symm
 have nBRB2:bBR ≠ w.heap.size+1:=fun e=>by have:=lB2;omega
 have nB2BR:w.heap.size+1 ≠ bBR:=fun e=>nBRB2 e.symm
 have nBPBR:bBP ≠ bBR:=fun e=>hf.apart 6 5 ⟨by omega,rfl⟩ ⟨by omega,rfl⟩ (by omega) bBP ((hφBP bBP).2 rfl) ((hφBR bBP).2 e)
 have nBRBP:bBR ≠ bBP:=fun e=>hf.apart 5 6 ⟨by omega,rfl⟩ ⟨by omega,rfl⟩ (by omega) bBR ((hφBR bBR).2 rfl) ((hφBP bBR).2 e)
 simp only [hνBP,hνBR]
 clear hνBP hνBR
 have gBP:=bI HW.out.size hBBP
 clear hBBP
 have gBR:=bI HW.out.size hBBR
 clear hBBR
 clear lB1 cB1 fB1 lB2 cB2 fB2
 have hbv:=hb
 replace B1:=h! (B1.out.later hb)
 replace B2:=h! (B2.out.later hb)
 replace HW:=h! (HW.out.trans (hb.mono HW.out.size))
 clear hb
 have BP:=h! hXBP
 clear hXBP
 have BR:=h! hXBR
 clear hXBR
 obtain ⟨lB1,cB1,fB1⟩:=B1.out
 obtain ⟨lB2,cB2,fB2⟩:=B2.out
 obtain ⟨lBP,cBP,fBP⟩:=BP.out
 obtain ⟨lBR,cBR,fBR⟩:=BR.out
 clear hf
 go_upto_region 4 with (fail)
 clear lB1 cB1 fB1 lB2 cB2 fB2 lBP cBP fBP lBR cBR fBR
 have hO_:=((((Only.set wg (bBR) 0 (.int .i64 y.term.op)).put 1 (.int .i64 y.term.val)).put 2 (.slice ta' y.term.to.length tc')).put 3 (.int .i64 y.term.n))
 replace B1:=h! (B1.out.only hO_ (by first | assumption | (simp;done) | omega))
 replace B2:=h! (B2.out.only hO_ (by first | assumption | (simp;done) | omega))
 replace BP:=h! (BP.out.only hO_ (by first | assumption | (simp;done) | omega))
 replace HW:=h! (hO_.2.2 HW.out (by first | assumption | omega | (have:=HW.out.size;omega) | (simp;done) | (simp;omega)))
 replace BR:=h! (Box.to (A':=#[(.int .i64 y.term.op),(.int .i64 y.term.val),(.slice ta' y.term.to.length tc'),(.int .i64 y.term.n)]) ((((BR.out.set 0 (.int .i64 y.term.op)).set 1 (.int .i64 y.term.val)).set 2 (.slice ta' y.term.to.length tc')).set 3 (.int .i64 y.term.n)) (by first | rfl | simp))
 clear hO_
 generalize ((((wg.setCell ⟨bBR,0,none⟩ (.int .i64 y.term.op)).setCell ⟨bBR,1,none⟩ (.int .i64 y.term.val)).setCell ⟨bBR,2,none⟩ (.slice ta' y.term.to.length tc')).setCell ⟨bBR,3,none⟩ (.int .i64 y.term.n))=w4 at *
 obtain ⟨lB1,cB1,fB1⟩:=B1.out
 obtain ⟨lB2,cB2,fB2⟩:=B2.out
 obtain ⟨lBP,cBP,fBP⟩:=BP.out
 obtain ⟨lBR,cBR,fBR⟩:=BR.out
 cases d1
 ·rw [bF,bF,bF,bF,bF] at HR
  go_wp2
  go_ret
  exact ⟨by rw [HR.out];rfl,HW.out⟩
 rw [bL] at HR
 cases d2
 ·rw [bF,bF,bF,bF] at HR
  go_wp2
  go_ret
  exact ⟨by rw [HR.out];rfl,HW.out⟩
 rw [bL] at HR
 cases h1:(x.term.op == y.term.op)
 ·rw [h1,bF,bF,bF] at HR
  go_wp2
  go_ret
  exact ⟨by rw [HR.out];rfl,HW.out⟩
 rw [h1,bL] at HR
 cases h2:(x.term.val == y.term.val)
 ·rw [h2,bF,bF] at HR
  go_wp2
  go_ret
  exact ⟨by rw [HR.out];rfl,HW.out⟩
 rw [h2,bL] at HR
 cases h3:(x.term.n == y.term.n)
 ·rw [h3,bF] at HR
  go_wp2
  go_ret
  exact ⟨by rw [HR.out];rfl,HW.out⟩
 rw [h3,bL] at HR
 go_wp2_with fail
 refine (pM (HT.out.1.below HW.out) (HT.out.2.below HW.out)).mono ?_
 rintro e w5 ⟨rfl,hb⟩
 rw [<-HD.out.2.2]
 clear lB1 cB1 fB1 lB2 cB2 fB2 lBP cBP fBP lBR cBR fBR
 replace B1:=h! (B1.out.later hb)
 replace B2:=h! (B2.out.later hb)
 replace BP:=h! (BP.out.later hb)
 replace BR:=h! (BR.out.later hb)
 replace HW:=h! (HW.out.trans (hb.mono HW.out.size))
 clear hb
 obtain ⟨lB1,cB1,fB1⟩:=B1.out
 obtain ⟨lB2,cB2,fB2⟩:=B2.out
 obtain ⟨lBP,cBP,fBP⟩:=BP.out
 obtain ⟨lBR,cBR,fBR⟩:=BR.out
 go_wp2
 go_ret
 exact ⟨by rw [HR.out];rfl,HW.out⟩
theorem pW:Enters Tryz.prog 83:=enters_of Tryz.func83 (by kernel_rfl) rfl
theorem aBK {w:World} {v v' : Value} {xs ys:List BlockD} (hv:eT gD 6 w v xs) (hv' : eT gD 6 w v' ys) :
  Calls Tryz.prog 82 #[v,v',.func (.func 83) #[] #[]] w fun e w'=>e = .returned (.bool (decide (xs=ys)))/\Below w.heap.size w w':=by
 obtain ⟨a1,c1,b1,o1,hbe,hc1,hm1,hl1,ha1,hx⟩:=eU hv
 cases hbe
 obtain ⟨a2,c2,b2,o2,hbe,hc2,hm2,hl2,ha2,hy⟩:=eU hv'
 cases hbe
 obtain ⟨n1,hn1⟩ : ∃ n,n=xs.length:=⟨_,rfl⟩
 obtain ⟨n2,hn2⟩ : ∃ n,n=ys.length:=⟨_,rfl⟩
 rw [<-hn1] at hc1 hl1 ha1 ⊢
 rw [<-hn2] at hc2 hl2 ha2 ⊢
 have G1:=h! hn1
 have G2:=h! hn2
 have HA1:=h! ha1
 have HA2:=h! ha2
 have HX:=h! hx
 have HY:=h! hy
 have HW:=h! (Below.refl w.heap.size w)
 obtain ⟨r,hr⟩ : ∃ r,r=decide (xs=ys):=⟨_,rfl⟩
 rw [<-hr]
 have HR:=h! hr
 clear hv hv' hn1 hn2 ha1 ha2 hx hy hr
 have eg1:∀ (args:Array Value) (w:World),(callFunc 83 args).run Tryz.prog w = .ok (.enter 83 args) w:=pW
 by_cases hnn:n1=n2
 rotate_left
 ·have hne:((n1:Int) != (n2:Int))=true:=by simp;omega
  have HRF:Hid (r=false):=h! (by rw [HR.out,decide_eq_false_iff_not];intro h;have h1:=G1.out;have h2:=G2.out;rw [h] at h1;omega)
  go_enter Tryz.func82,Tryz.ntmps82
  go_wp2
  go_ret
  exact ⟨by rw [HRF.out];rfl,HW.out⟩
 have HNN:=h! hnn
 subst hnn
 have hne:((n1:Int) != (n1:Int))=false:=by simp
 go_enter Tryz.func82,Tryz.ntmps82
 go_wp2_with fail
 clear hne
 go_loopw [17] (fun i wr => ∃ j:Nat,j <= n1/\i = .int .i64 j/\xs.take j=ys.take j/\Below w.heap.size w wr) (fun i _=>n1 - (intOf i).toNat)
 case atStart=>exact ⟨0,aJ _,rfl,rfl,HW.out⟩
 case round =>
  obtain ⟨j,hj,rfl,hs,hW⟩:=hrel
  have HS:=h! hs
  replace HW:=h! hW
  clear hs hW
  generalize wr=w3 at *
  by_cases hlt:j < n1
  ·obtain ⟨rfl,hb1⟩:=HA1.out (by omega)
   obtain ⟨rfl,hb2⟩:=HA2.out (by omega)
   obtain ⟨p,hp⟩ : ∃ p,xs[j]? = some p:=⟨_,aC (by have:=G1.out;omega)⟩
   obtain ⟨q,hq⟩ : ∃ q,ys[j]? = some q:=⟨_,aC (by have:=G2.out;omega)⟩
   obtain ⟨ap,ai,at_,cp,ci,ct,hP⟩:=HX.out j p hp
   obtain ⟨dp,di,dt,ep,ei,et,hQ⟩:=HY.out j q hq
   have HP:=h! hP
   have HQ:=h! hQ
   have HPX:=h! hp
   have HQX:=h! hq
   obtain ⟨m0,m1,m2,m3,m4,m5, -, -, -, -, -, -⟩:=hP.below HW.out hb1
   clear hp hq hP hQ
   go_upto_region 6 with (fail)
   clear m0 m1 m2 m3 m4 m5
   have HB5:Hid (Below w3.heap.size w3 (w3.alloc (.cells #[.slice ap p.phis.length cp,.slice ai p.code.length ci,.int .i64 p.term.op,.int .i64 p.term.val,.slice at_ p.term.to.length ct,.int .i64 p.term.n] 63))):=h! ((Below.refl _ _).alloc (aA _) _)
   have B5:=h! (Box.new w3 #[.slice ap p.phis.length cp,.slice ai p.code.length ci,.int .i64 p.term.op,.int .i64 p.term.val,.slice at_ p.term.to.length ct,.int .i64 p.term.n] 63)
   obtain ⟨b5,hb5⟩ : ∃ b5,b5=w3.heap.size:=⟨_,rfl⟩
   rw [<-hb5] at B5 ⊢
   generalize w3.alloc (.cells #[.slice ap p.phis.length cp,.slice ai p.code.length ci,.int .i64 p.term.op,.int .i64 p.term.val,.slice at_ p.term.to.length ct,.int .i64 p.term.n] 63)=w5 at *
   clear hb5
   replace HW:=h! (HW.out.trans (HB5.out.mono HW.out.size))
   clear HB5
   obtain ⟨m0,m1,m2,m3,m4,m5, -, -, -, -, -, -⟩:=HQ.out.below HW.out hb2
   go_upto_region 7 with (fail)
   clear m0 m1 m2 m3 m4 m5
   have HB6:Hid (Below w5.heap.size w5 (w5.alloc (.cells #[.slice dp q.phis.length ep,.slice di q.code.length ei,.int .i64 q.term.op,.int .i64 q.term.val,.slice dt q.term.to.length et,.int .i64 q.term.n] 63))):=h! ((Below.refl _ _).alloc (aA _) _)
   have B6:=h! (Box.new w5 #[.slice dp q.phis.length ep,.slice di q.code.length ei,.int .i64 q.term.op,.int .i64 q.term.val,.slice dt q.term.to.length et,.int .i64 q.term.n] 63)
   obtain ⟨b6,hb6⟩ : ∃ b6,b6=w5.heap.size:=⟨_,rfl⟩
   rw [<-hb6] at B6 ⊢
   generalize w5.alloc (.cells #[.slice dp q.phis.length ep,.slice di q.code.length ei,.int .i64 q.term.op,.int .i64 q.term.val,.slice dt q.term.to.length et,.int .i64 q.term.n] 63)=w6 at *
   clear hb6
   replace HW:=h! (HW.out.trans (HB6.out.mono HW.out.size))
   replace B5:=h! (B5.out.later HB6.out)
   clear HB6
   obtain ⟨c,hc⟩ : ∃ c,c=decide (p=q):=⟨_,rfl⟩
   have HC:=h! hc
   have HCT:Hid (Calls Tryz.prog 83 #[.agg #[.slice ap p.phis.length cp,.slice ai p.code.length ci,.int .i64 p.term.op,.int .i64 p.term.val,.slice at_ p.term.to.length ct,.int .i64 p.term.n],.agg #[.slice dp q.phis.length ep,.slice di q.code.length ei,.int .i64 q.term.op,.int .i64 q.term.val,.slice dt q.term.to.length et,.int .i64 q.term.n]] w6 fun e w'=>e = .returned (.bool c)/\Below w6.heap.size w6 w'):=h! (by rw [hc];exact (vV (HP.out.below HW.out hb1).blockV (HQ.out.below HW.out hb2).blockV))
   clear hc
   obtain ⟨l5,k5,f5⟩:=B5.out
   obtain ⟨l6,k6,f6⟩:=B6.out
   cases c
   ·go_wp2_with (go_at_fn 83;refine HCT.out.mono ?_;rintro e w7 ⟨rfl,hb7⟩;have HB7:=h! hb7;clear hb7)
    have HRF:Hid (r=false):=h! (by rw [HR.out,decide_eq_false_iff_not];intro h;have h1:=HC.out;rw [qF h HPX.out HQX.out] at h1;simp at h1)
    go_ret
    exact ⟨by rw [HRF.out];rfl,HW.out.trans (HB7.out.mono HW.out.size)⟩
   go_wp2_with (go_at_fn 83;refine HCT.out.mono ?_;rintro e w7 ⟨rfl,hb7⟩;have HB7:=h! hb7;clear hb7)
   have HS2:Hid (xs.take (j+1)=ys.take (j+1)):=h! ((oL HS.out HPX.out HQX.out).2 (by have h1:=HC.out;simpa using h1.symm))
   have HW4:=h! (HW.out.trans (HB7.out.mono HW.out.size))
   go_roundw
   case rel=>exact ⟨j+1,hlt,by go_num,HS2.out,HW4.out⟩
   simp [intOf];omega
  have HRT:Hid (r=true):=h! (by rw [HR.out,decide_eq_true_eq];have h9:=HS.out;obtain rfl:j=n1:=(by omega);exact qE h9 G1.out.symm G2.out.symm)
  go_wp2
  go_ret
  exact ⟨by rw [HRT.out];rfl,HW.out⟩
theorem aBL {w:World} {v v' : Value} {f g:FuncD} (hf:fJ w v f) (hg:fJ w v' g):Calls Tryz.prog 46 #[v,v'] w fun e w'=>e = .returned (.bool (decide (f=g)))/\Below w.heap.size w w':=by
 obtain ⟨ap,cp,ab,cb,rfl,hp, -, -,hB⟩:=hf.form
 obtain ⟨ap',cp',ab',cb',rfl,hp', -, -,hB'⟩:=hg.form
 have HP:=h! (And.intro hp hp')
 have HB:=h! (And.intro hB hB')
 obtain ⟨r,hr⟩ : ∃ r,r=decide (f=g):=⟨_,rfl⟩
 obtain ⟨d1,hd1⟩ : ∃ r,r=decide (f.params=g.params):=⟨_,rfl⟩
 obtain ⟨d2,hd2⟩ : ∃ r,r=decide (f.blocks=g.blocks):=⟨_,rfl⟩
 rw [<-hr]
 rw [yR, <-hd1, <-hd2] at hr
 have HR:=h! hr
 have HD:=h! (And.intro hd1 hd2)
 clear hp hp' hB hB' hr hd1 hd2 hf hg
 go_enter Tryz.func46,Tryz.ntmps46
 go_upto_region 1 with (fail)
 have hA_:=(Below.refl w.heap.size w).alloc (aA _) (.cells #[.slice ap f.params.length cp,.int .i64 f.arrays,.int .i64 f.cells,.slice ab f.blocks.length cb] 25)
 have HW:=h! hA_
 clear hA_
 have B1:=h! (Box.new w #[.slice ap f.params.length cp,.int .i64 f.arrays,.int .i64 f.cells,.slice ab f.blocks.length cb] 25)
 have hz0_:(w.alloc (.cells #[.slice ap f.params.length cp,.int .i64 f.arrays,.int .i64 f.cells,.slice ab f.blocks.length cb] 25)).heap.size=w.heap.size+1:=World.size_alloc _ _
 generalize w.alloc (.cells #[.slice ap f.params.length cp,.int .i64 f.arrays,.int .i64 f.cells,.slice ab f.blocks.length cb] 25)=wv0 at *
 have hA_:=(Below.refl wv0.heap.size wv0).alloc (aA _) (.cells #[.slice ap' g.params.length cp',.int .i64 g.arrays,.int .i64 g.cells,.slice ab' g.blocks.length cb'] 25)
 replace B1:=h! (B1.out.later hA_)
 replace HW:=h! (HW.out.trans (hA_.mono HW.out.size))
 clear hA_
 have B2:=h! (Box.new wv0 #[.slice ap' g.params.length cp',.int .i64 g.arrays,.int .i64 g.cells,.slice ab' g.blocks.length cb'] 25)
 rw [hz0_] at B2
 clear hz0_
 generalize wv0.alloc (.cells #[.slice ap' g.params.length cp',.int .i64 g.arrays,.int .i64 g.cells,.slice ab' g.blocks.length cb'] 25)=wv at *
 obtain ⟨lB1,cB1,fB1⟩:=B1.out
 obtain ⟨lB2,cB2,fB2⟩:=B2.out
 cases h1:(f.arrays == g.arrays)
 ·rw [h1,bF,bF,bF] at HR
  go_wp2
  go_ret
  exact ⟨by rw [HR.out];rfl,HW.out⟩
 rw [h1,bL] at HR
 cases h2:(f.cells == g.cells)
 ·rw [h2,bF,bF] at HR
  go_wp2
  go_ret
  exact ⟨by rw [HR.out];rfl,HW.out⟩
 rw [h2,bL] at HR
 go_wp2_with fail
 refine (pM (HP.out.1.below HW.out) (HP.out.2.below HW.out)).mono ?_
 rintro e w2 ⟨rfl,hb⟩
 rw [<-HD.out.1]
 clear lB1 cB1 fB1 lB2 cB2 fB2
 replace B1:=h! (B1.out.later hb)
 replace B2:=h! (B2.out.later hb)
 replace HW:=h! (HW.out.trans (hb.mono HW.out.size))
 clear hb
 obtain ⟨lB1,cB1,fB1⟩:=B1.out
 obtain ⟨lB2,cB2,fB2⟩:=B2.out
 cases d1
 ·rw [bF] at HR
  go_wp2
  go_ret
  exact ⟨by rw [HR.out];rfl,HW.out⟩
 rw [bL] at HR
 go_wp2_with fail
 refine (aBK (HB.out.1.below gD.lasting HW.out) (HB.out.2.below gD.lasting HW.out)).mono ?_
 rintro e w3 ⟨rfl,hb⟩
 rw [<-HD.out.2]
 clear lB1 cB1 fB1 lB2 cB2 fB2
 replace B1:=h! (B1.out.later hb)
 replace B2:=h! (B2.out.later hb)
 replace HW:=h! (HW.out.trans (hb.mono HW.out.size))
 clear hb
 obtain ⟨lB1,cB1,fB1⟩:=B1.out
 obtain ⟨lB2,cB2,fB2⟩:=B2.out
 go_wp2
 go_ret
 exact ⟨by rw [HR.out];rfl,HW.out⟩
end Go.Proofs.YtagabiidbbhhmaaGreat
