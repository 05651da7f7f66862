/- Part 53. -/
import Derived.Test.YtagabiidbbhhmaaGreatEU52
import Derived.Test.YtagabiidbbhhmaaGreatEU47
namespace Go.Proofs.YtagabiidbbhhmaaGreat
set_option maxHeartbeats 6400000
set_option linter.all false
open Go.RowKit
theorem xF (x y:BlockD):decide (x=y)=(((((decide (x.phis=y.phis) && decide (x.code=y.code)) && (x.term.op == y.term.op)) && (x.term.val == y.term.val)) && (x.term.n == y.term.n)) && decide (x.term.to=y.term.to)):=by
 rcases x with ⟨a,b,⟨c,d,e,f⟩⟩
 rcases y with ⟨a',b',⟨c',d',e',f'⟩⟩
 rw [bU]
 simp only [decide_eq_true_eq,aK,beq_iff_eq,BlockD.mk.injEq,TermD.mk.injEq]
 constructor
 ·rintro ⟨rfl,rfl,rfl,rfl,rfl,rfl⟩;simp
 rintro ⟨⟨⟨⟨⟨rfl,rfl⟩,rfl⟩,rfl⟩,rfl⟩,rfl⟩;simp
theorem aAT (x y:FuncD):decide (x=y)=((((x.arrays == y.arrays) && (x.cells == y.cells)) && decide (x.params=y.params)) && decide (x.blocks=y.blocks)):=by
 rcases x with ⟨a,b,c,d⟩
 rcases y with ⟨a',b',c',d'⟩
 rw [bU]
 simp only [decide_eq_true_eq,aK,beq_iff_eq,FuncD.mk.injEq]
 constructor
 ·rintro ⟨rfl,rfl,rfl,rfl⟩;simp
 rintro ⟨⟨⟨rfl,rfl⟩,rfl⟩,rfl⟩;simp
theorem xG {w:World} {v v' : Value} {x y:BlockD} (hx:BlockV w v x) (hy:BlockV w v' y):Calls Tryz.prog 83 #[v,v'] w fun e w'=>e = .returned (.bool (decide (x=y)))/\Below w.heap.size w w':=by
 obtain ⟨⟨pv,uv,tv,rfl,hp,hc,ht⟩, -, -, -⟩:=hx
 obtain ⟨⟨pv',uv',tv',rfl,bs,bv,bt⟩, -, -, -⟩:=hy
 obtain ⟨pa,pc,rfl⟩:=hp.form
 obtain ⟨ua,uc,rfl⟩:=hc.form
 obtain ⟨ta,tc,rfl⟩:=ht.form
 obtain ⟨bo,bq,rfl⟩:=bs.form
 obtain ⟨bm,bp,rfl⟩:=bv.form
 obtain ⟨ai,al,rfl⟩:=bt.form
 have HP:=h! (And.intro hp bs)
 have HC:=h! (And.intro hc bv)
 have HT:=h! (And.intro ht bt)
 obtain ⟨r,hr⟩ : ∃ r,r=decide (x=y):=⟨_,rfl⟩
 obtain ⟨d1,bl⟩ : ∃ r,r=decide (x.phis=y.phis):=⟨_,rfl⟩
 obtain ⟨d2,bn⟩ : ∃ r,r=decide (x.code=y.code):=⟨_,rfl⟩
 obtain ⟨d3,br⟩ : ∃ r,r=decide (x.term.to=y.term.to):=⟨_,rfl⟩
 rw [<-hr]
 rw [xF, <-bl, <-bn, <-br] at hr
 have HR:=h! hr
 have HD:=h! (And.intro bl (And.intro bn br))
 clear hp hc ht bs bv bt hr bl bn br
 go_enter Tryz.func83,Tryz.ntmps83
 go_upto_region 1 with (fail)
 have am:=(Below.refl w.heap.size w).alloc (aC _) (.cells #[.slice pa x.phis.length pc,.slice ua x.code.length uc,.int .i64 x.term.op,.int .i64 x.term.val,.slice ta x.term.to.length tc,.int .i64 x.term.n] 63)
 have HW:=h! am
 clear am
 have B1:=h! (Box.new w #[.slice pa x.phis.length pc,.slice ua x.code.length uc,.int .i64 x.term.op,.int .i64 x.term.val,.slice ta x.term.to.length tc,.int .i64 x.term.n] 63)
 have aq:(w.alloc (.cells #[.slice pa x.phis.length pc,.slice ua x.code.length uc,.int .i64 x.term.op,.int .i64 x.term.val,.slice ta x.term.to.length tc,.int .i64 x.term.n] 63)).heap.size=w.heap.size+1:=World.size_alloc _ _
 generalize w.alloc (.cells #[.slice pa x.phis.length pc,.slice ua x.code.length uc,.int .i64 x.term.op,.int .i64 x.term.val,.slice ta x.term.to.length tc,.int .i64 x.term.n] 63)=bk at *
 have am:=(Below.refl bk.heap.size bk).alloc (aC _) (.cells #[.slice bo y.phis.length bq,.slice bm y.code.length bp,.int .i64 y.term.op,.int .i64 y.term.val,.slice ai y.term.to.length al,.int .i64 y.term.n] 63)
 replace B1:=h! (B1.out.later am)
 replace HW:=h! (HW.out.trans (am.mono HW.out.size))
 clear am
 have B2:=h! (Box.new bk #[.slice bo y.phis.length bq,.slice bm y.code.length bp,.int .i64 y.term.op,.int .i64 y.term.val,.slice ai y.term.to.length al,.int .i64 y.term.n] 63)
 rw [aq] at B2
 clear aq
 generalize bk.alloc (.cells #[.slice bo y.phis.length bq,.slice bm y.code.length bp,.int .i64 y.term.op,.int .i64 y.term.val,.slice ai y.term.to.length al,.int .i64 y.term.n] 63)=wv at *
 obtain ⟨ac,ae,af⟩:=B1.out
 obtain ⟨ad,ag,ah⟩:=B2.out
 go_wp2_with fail
 refine (aFK (HP.out.1.below PhiR.lasting HW.out) (HP.out.2.below PhiR.lasting HW.out)).mono ?_
 rintro e w2 ⟨rfl,hb⟩
 rw [<-HD.out.1]
 clear ac ae af ad ag ah
 replace B1:=h! (B1.out.later hb)
 replace B2:=h! (B2.out.later hb)
 replace HW:=h! (HW.out.trans (hb.mono HW.out.size))
 clear hb
 obtain ⟨ac,ae,af⟩:=B1.out
 obtain ⟨ad,ag,ah⟩:=B2.out
 go_wp2_with fail
 refine (aFL (HC.out.1.below gZ.lasting HW.out) (HC.out.2.below gZ.lasting HW.out)).mono ?_
 rintro e w3 ⟨rfl,hb⟩
 rw [<-HD.out.2.1]
 clear ac ae af ad ag ah
 replace B1:=h! (B1.out.later hb)
 replace B2:=h! (B2.out.later hb)
 replace HW:=h! (HW.out.trans (hb.mono HW.out.size))
 clear hb
 obtain ⟨ac,ae,af⟩:=B1.out
 obtain ⟨ad,ag,ah⟩:=B2.out
 go_upto_region 3 with (fail)
 refine Seven.wp_region_grow 7 (fun kz=>match kz with | 4=>some 6 | _=>none) (fun ν kz=>match kz with | 4=>.holds (Seven.MadeS (fun b=>.pointer (some ⟨b,0,none⟩)) #[.int .i64 0,.int .i64 0,.slice none 0 0,.int .i64 0]) | 5=>.holds (Seven.MadeS (fun b=>.pointer (some ⟨b,0,none⟩)) #[.int .i64 0,.int .i64 0,.slice none 0 0,.int .i64 0]) | 6=>.holds (Seven.FillS (ν 4).1 #[.int .i64 x.term.op,.int .i64 x.term.val,.slice ta x.term.to.length tc,.int .i64 x.term.n]) | _=>.plain) (by kernel_rfl) (by kernel_rfl) ?_ ?_ ?_ (fun ν => ?_)
 ·(intro ν k;(try dsimp only);split <;> first | exact True.intro | (intro u φ w1 w2 D hu ho ay hDb hlt hn;first | exact Seven.MadeS.off hu ho ay | (exact hu.off ho ay)))
 ·(intro ν ν' k h;first | rfl | ((try dsimp only);split <;> first | rfl | (rw [h 4 (by kernel_rfl)])))
 ·(intro j k h;(try dsimp only at h);split at h <;> first | (cases h;done) | (cases h;exact ⟨by kernel_rfl,by omega⟩))
 simp only [aP,aU,aS,aX]
 iterate 4 (refine Seven.Grow.val (v := ?_) rfl rfl (fun wg hbg hdg => ?_) ?_;rotate_left;(focus ((obtain ⟨lg0,cg0,fg0⟩:=B1.out.later hbg);(obtain ⟨lg1,cg1,fg1⟩:=B2.out.later hbg);clear hbg hdg;first | (go_simp;done) | (go_simp;with_reducible rfl)));simp only [Act.put,aA,aE,aF])
 iterate 2 (refine Seven.Grow.made (T := ?_) rfl rfl (fun wg hbg hdg => ?_) ?_;rotate_left;(focus ((obtain ⟨lg0,cg0,fg0⟩:=B1.out.later hbg);(obtain ⟨lg1,cg1,fg1⟩:=B2.out.later hbg);clear hbg hdg;first | (go_simp;done) | (go_simp;with_reducible rfl)));simp only [Act.put,Seven.Known.val,aA,aE,aF])
 refine Seven.Grow.turns rfl (by intro h;cases h) (fun wg hbg hdg => ?_) ?_
 focus ((have hMz:Seven.MadeS (fun b=>.pointer (some ⟨b,0,none⟩)) #[.int .i64 0,.int .i64 0,.slice none 0 0,.int .i64 0] (ν 4).1 (ν 4).2 wg:=hdg.fact 4 ⟨by kernel_rfl,.inr rfl⟩);(obtain ⟨bz,hbe,hφz,hXz⟩:=hMz);simp only [hbe];refine ⟨_, ?_,Foot.one bz,⟨bz,rfl,fun k=>Iff.rfl,(qG hXz (.int .i64 x.term.op) (.int .i64 x.term.val) (.slice ta x.term.to.length tc) (.int .i64 x.term.n)).2⟩,(oB (qG hXz (.int .i64 x.term.op) (.int .i64 x.term.val) (.slice ta x.term.to.length tc) (.int .i64 x.term.n)).1).mono (fun q _ hq=>⟨4,rfl,(hφz q).2 hq⟩),fun q hq=>⟨.inl ⟨4,rfl,(hφz q).2 hq⟩,by cases hq;exact (qG hXz (.int .i64 x.term.op) (.int .i64 x.term.val) (.slice ta x.term.to.length tc) (.int .i64 x.term.n)).2.lt⟩⟩;obtain ⟨lgz,cgz,fgz⟩:=hXz;(obtain ⟨lg0,cg0,fg0⟩:=B1.out.later hbg);(obtain ⟨lg1,cg1,fg1⟩:=B2.out.later hbg);clear hbg hdg;first | (go_simp;done) | (go_simp;with_reducible rfl))
 simp only [Act.put,Seven.Known.val,aA,aE,aF]
 intro wg hb hf
 obtain ⟨ab,an,ak,aw⟩:=hf.fact 6 ⟨by omega,rfl⟩
 have bb:w3.heap.size <= ab:=hf.base 6 ab ⟨by omega,rfl⟩ ((ak ab).2 rfl)
 have az:ab ≠ w.heap.size:=fun e=>by have:=ac;omega
 have nB1BP:w.heap.size ≠ ab:=fun e=>az e.symm
 have ax:ab ≠ w.heap.size+1:=fun e=>by have:=ad;omega
 have nB2BP:w.heap.size+1 ≠ ab:=fun e=>ax e.symm
 obtain ⟨aa,ar,aj,ba⟩:=hf.fact 5 ⟨by omega,rfl⟩
 have bc:w3.heap.size <= aa:=hf.base 5 aa ⟨by omega,rfl⟩ ((aj aa).2 rfl)
 have ap:aa ≠ w.heap.size:=fun e=>by have:=ac;omega
 have nB1BR:w.heap.size ≠ aa:=fun e=>ap e.symm
 have ao:aa ≠ w.heap.size+1:=fun e=>by have:=ad;omega
 have nB2BR:w.heap.size+1 ≠ aa:=fun e=>ao e.symm
 have nBPBR:ab ≠ aa:=fun e=>hf.apart 6 5 ⟨by omega,rfl⟩ ⟨by omega,rfl⟩ (by omega) ab ((ak ab).2 rfl) ((aj ab).2 e)
 have nBRBP:aa ≠ ab:=fun e=>hf.apart 5 6 ⟨by omega,rfl⟩ ⟨by omega,rfl⟩ (by omega) aa ((aj aa).2 rfl) ((ak aa).2 e)
 simp only [an,ar]
 clear an ar
 have gBP:=bA HW.out.size bb
 clear bb
 have gBR:=bA HW.out.size bc
 clear bc
 clear ac ae af ad ag ah
 have hbv:=hb
 replace B1:=h! (B1.out.later hb)
 replace B2:=h! (B2.out.later hb)
 replace HW:=h! (HW.out.trans (hb.mono HW.out.size))
 clear hb
 have BP:=h! aw
 clear aw
 have BR:=h! ba
 clear ba
 obtain ⟨ac,ae,af⟩:=B1.out
 obtain ⟨ad,ag,ah⟩:=B2.out
 obtain ⟨bg,bh,bj⟩:=BP.out
 obtain ⟨bf,be,bi⟩:=BR.out
 clear hf
 go_upto_region 4 with (fail)
 clear ac ae af ad ag ah bg bh bj bf be bi
 have bd:=((((Only.set wg (aa) 0 (.int .i64 y.term.op)).put 1 (.int .i64 y.term.val)).put 2 (.slice ai y.term.to.length al)).put 3 (.int .i64 y.term.n))
 replace B1:=h! (B1.out.only bd (by first | assumption | (simp;done) | omega))
 replace B2:=h! (B2.out.only bd (by first | assumption | (simp;done) | omega))
 replace BP:=h! (BP.out.only bd (by first | assumption | (simp;done) | omega))
 replace HW:=h! (bd.2.2 HW.out (by first | assumption | omega | (have:=HW.out.size;omega) | (simp;done) | (simp;omega)))
 replace BR:=h! (Box.to (A':=#[(.int .i64 y.term.op),(.int .i64 y.term.val),(.slice ai y.term.to.length al),(.int .i64 y.term.n)]) ((((BR.out.set 0 (.int .i64 y.term.op)).set 1 (.int .i64 y.term.val)).set 2 (.slice ai y.term.to.length al)).set 3 (.int .i64 y.term.n)) (by first | rfl | simp))
 clear bd
 generalize ((((wg.setCell ⟨aa,0,none⟩ (.int .i64 y.term.op)).setCell ⟨aa,1,none⟩ (.int .i64 y.term.val)).setCell ⟨aa,2,none⟩ (.slice ai y.term.to.length al)).setCell ⟨aa,3,none⟩ (.int .i64 y.term.n))=w4 at *
 obtain ⟨ac,ae,af⟩:=B1.out
 obtain ⟨ad,ag,ah⟩:=B2.out
 obtain ⟨bg,bh,bj⟩:=BP.out
 obtain ⟨bf,be,bi⟩:=BR.out
 cases d1
 ·rw [bF,bF,bF,bF,bF] at HR
  go_wp2
  go_ret
  exact ⟨by rw [HR.out];rfl,HW.out⟩
 rw [bL] at HR
 cases d2
 ·rw [bF,bF,bF,bF] at HR
  go_wp2
  go_ret
  exact ⟨by rw [HR.out];rfl,HW.out⟩
 rw [bL] at HR
 cases h1:(x.term.op == y.term.op)
 ·rw [h1,bF,bF,bF] at HR
  go_wp2
  go_ret
  exact ⟨by rw [HR.out];rfl,HW.out⟩
 rw [h1,bL] at HR
 cases h2:(x.term.val == y.term.val)
 ·rw [h2,bF,bF] at HR
  go_wp2
  go_ret
  exact ⟨by rw [HR.out];rfl,HW.out⟩
 rw [h2,bL] at HR
 cases h3:(x.term.n == y.term.n)
 ·rw [h3,bF] at HR
  go_wp2
  go_ret
  exact ⟨by rw [HR.out];rfl,HW.out⟩
 rw [h3,bL] at HR
 go_wp2_with fail
 refine (pU (HT.out.1.below HW.out) (HT.out.2.below HW.out)).mono ?_
 rintro e w5 ⟨rfl,hb⟩
 rw [<-HD.out.2.2]
 clear ac ae af ad ag ah bg bh bj bf be bi
 replace B1:=h! (B1.out.later hb)
 replace B2:=h! (B2.out.later hb)
 replace BP:=h! (BP.out.later hb)
 replace BR:=h! (BR.out.later hb)
 replace HW:=h! (HW.out.trans (hb.mono HW.out.size))
 clear hb
 obtain ⟨ac,ae,af⟩:=B1.out
 obtain ⟨ad,ag,ah⟩:=B2.out
 obtain ⟨bg,bh,bj⟩:=BP.out
 obtain ⟨bf,be,bi⟩:=BR.out
 go_wp2
 go_ret
 exact ⟨by rw [HR.out];rfl,HW.out⟩
theorem qU:Enters Tryz.prog 83:=enters_of Tryz.func83 (by kernel_rfl) rfl
theorem aCL {w:World} {v v' : Value} {xs ys:List BlockD} (hv:eU gI 6 w v xs) (hv' : eU gI 6 w v' ys) :
  Calls Tryz.prog 82 #[v,v',.func (.func 83) #[] #[]] w fun e w'=>e = .returned (.bool (decide (xs=ys)))/\Below w.heap.size w w':=by
 obtain ⟨a1,c1,b1,o1,ah,ay,hm1,ax,ab,hx⟩:=eW hv
 cases ah
 obtain ⟨a2,c2,b2,o2,ah,bc,hm2,az,ad,hy⟩:=eW hv'
 cases ah
 obtain ⟨n1,ae⟩ : ∃ n,n=xs.length:=⟨_,rfl⟩
 obtain ⟨n2,ac⟩ : ∃ n,n=ys.length:=⟨_,rfl⟩
 rw [<-ae] at ay ax ab ⊢
 rw [<-ac] at bc az ad ⊢
 have G1:=h! ae
 have G2:=h! ac
 have ba:=h! ab
 have bd:=h! ad
 have HX:=h! hx
 have HY:=h! hy
 have HW:=h! (Below.refl w.heap.size w)
 obtain ⟨r,hr⟩ : ∃ r,r=decide (xs=ys):=⟨_,rfl⟩
 rw [<-hr]
 have HR:=h! hr
 clear hv hv' ae ac ab ad hx hy hr
 have eg1:∀ (args:Array Value) (w:World),(callFunc 83 args).run Tryz.prog w = .ok (.enter 83 args) w:=qU
 by_cases hnn:n1=n2
 rotate_left
 ·have aq:((n1:Int) != (n2:Int))=true:=by simp;omega
  have ag:Hid (r=false):=h! (by rw [HR.out,decide_eq_false_iff_not];intro h;have h1:=G1.out;have h2:=G2.out;rw [h] at h1;omega)
  go_enter Tryz.func82,Tryz.ntmps82
  go_wp2
  go_ret
  exact ⟨by rw [ag.out];rfl,HW.out⟩
 have HNN:=h! hnn
 subst hnn
 have aq:((n1:Int) != (n1:Int))=false:=by simp
 go_enter Tryz.func82,Tryz.ntmps82
 go_wp2_with fail
 clear aq
 go_loopw [17] (fun i wr => ∃ j:Nat,j <= n1/\i = .int .i64 j/\xs.take j=ys.take j/\Below w.heap.size w wr) (fun i _=>n1 - (intOf i).toNat)
 case atStart=>exact ⟨0,aH _,rfl,rfl,HW.out⟩
 case round =>
  obtain ⟨j,hj,rfl,hs,hW⟩:=hrel
  have HS:=h! hs
  replace HW:=h! hW
  clear hs hW
  generalize wr=w3 at *
  by_cases hlt:j < n1
  ·obtain ⟨rfl,aj⟩:=ba.out (by omega)
   obtain ⟨rfl,ar⟩:=bd.out (by omega)
   obtain ⟨p,hp⟩ : ∃ p,xs[j]? = some p:=⟨_,aB (by have:=G1.out;omega)⟩
   obtain ⟨q,hq⟩ : ∃ q,ys[j]? = some q:=⟨_,aB (by have:=G2.out;omega)⟩
   obtain ⟨ap,ai,aa,cp,ci,ct,hP⟩:=HX.out j p hp
   obtain ⟨dp,di,dt,ep,ei,et,hQ⟩:=HY.out j q hq
   have HP:=h! hP
   have HQ:=h! hQ
   have al:=h! hp
   have am:=h! hq
   obtain ⟨m0,m1,m2,m3,m4,m5, -, -, -, -, -, -⟩:=hP.below HW.out aj
   clear hp hq hP hQ
   go_upto_region 6 with (fail)
   clear m0 m1 m2 m3 m4 m5
   have ak:Hid (Below w3.heap.size w3 (w3.alloc (.cells #[.slice ap p.phis.length cp,.slice ai p.code.length ci,.int .i64 p.term.op,.int .i64 p.term.val,.slice aa p.term.to.length ct,.int .i64 p.term.n] 63))):=h! ((Below.refl _ _).alloc (aC _) _)
   have B5:=h! (Box.new w3 #[.slice ap p.phis.length cp,.slice ai p.code.length ci,.int .i64 p.term.op,.int .i64 p.term.val,.slice aa p.term.to.length ct,.int .i64 p.term.n] 63)
   obtain ⟨b5,an⟩ : ∃ b5,b5=w3.heap.size:=⟨_,rfl⟩
   rw [<-an] at B5 ⊢
   generalize w3.alloc (.cells #[.slice ap p.phis.length cp,.slice ai p.code.length ci,.int .i64 p.term.op,.int .i64 p.term.val,.slice aa p.term.to.length ct,.int .i64 p.term.n] 63)=w5 at *
   clear an
   replace HW:=h! (HW.out.trans (ak.out.mono HW.out.size))
   clear ak
   obtain ⟨m0,m1,m2,m3,m4,m5, -, -, -, -, -, -⟩:=HQ.out.below HW.out ar
   go_upto_region 7 with (fail)
   clear m0 m1 m2 m3 m4 m5
   have af:Hid (Below w5.heap.size w5 (w5.alloc (.cells #[.slice dp q.phis.length ep,.slice di q.code.length ei,.int .i64 q.term.op,.int .i64 q.term.val,.slice dt q.term.to.length et,.int .i64 q.term.n] 63))):=h! ((Below.refl _ _).alloc (aC _) _)
   have B6:=h! (Box.new w5 #[.slice dp q.phis.length ep,.slice di q.code.length ei,.int .i64 q.term.op,.int .i64 q.term.val,.slice dt q.term.to.length et,.int .i64 q.term.n] 63)
   obtain ⟨b6,ao⟩ : ∃ b6,b6=w5.heap.size:=⟨_,rfl⟩
   rw [<-ao] at B6 ⊢
   generalize w5.alloc (.cells #[.slice dp q.phis.length ep,.slice di q.code.length ei,.int .i64 q.term.op,.int .i64 q.term.val,.slice dt q.term.to.length et,.int .i64 q.term.n] 63)=w6 at *
   clear ao
   replace HW:=h! (HW.out.trans (af.out.mono HW.out.size))
   replace B5:=h! (B5.out.later af.out)
   clear af
   obtain ⟨c,hc⟩ : ∃ c,c=decide (p=q):=⟨_,rfl⟩
   have HC:=h! hc
   have HCT:Hid (Calls Tryz.prog 83 #[.agg #[.slice ap p.phis.length cp,.slice ai p.code.length ci,.int .i64 p.term.op,.int .i64 p.term.val,.slice aa p.term.to.length ct,.int .i64 p.term.n],.agg #[.slice dp q.phis.length ep,.slice di q.code.length ei,.int .i64 q.term.op,.int .i64 q.term.val,.slice dt q.term.to.length et,.int .i64 q.term.n]] w6 fun e w'=>e = .returned (.bool c)/\Below w6.heap.size w6 w'):=h! (by rw [hc];exact (xG (HP.out.below HW.out aj).blockV (HQ.out.below HW.out ar).blockV))
   clear hc
   obtain ⟨l5,k5,f5⟩:=B5.out
   obtain ⟨l6,k6,f6⟩:=B6.out
   cases c
   ·go_wp2_with (go_at_fn 83;refine HCT.out.mono ?_;rintro e w7 ⟨rfl,hb7⟩;have HB7:=h! hb7;clear hb7)
    have ag:Hid (r=false):=h! (by rw [HR.out,decide_eq_false_iff_not];intro h;have h1:=HC.out;rw [qI h al.out am.out] at h1;simp at h1)
    go_ret
    exact ⟨by rw [ag.out];rfl,HW.out.trans (HB7.out.mono HW.out.size)⟩
   go_wp2_with (go_at_fn 83;refine HCT.out.mono ?_;rintro e w7 ⟨rfl,hb7⟩;have HB7:=h! hb7;clear hb7)
   have aw:Hid (xs.take (j+1)=ys.take (j+1)):=h! ((oR HS.out al.out am.out).2 (by have h1:=HC.out;simpa using h1.symm))
   have be:=h! (HW.out.trans (HB7.out.mono HW.out.size))
   go_roundw
   case rel=>exact ⟨j+1,hlt,by go_num,aw.out,be.out⟩
   simp [intOf];omega
  have bb:Hid (r=true):=h! (by rw [HR.out,decide_eq_true_eq];have h9:=HS.out;obtain rfl:j=n1:=(by omega);exact qH h9 G1.out.symm G2.out.symm)
  go_wp2
  go_ret
  exact ⟨by rw [bb.out];rfl,HW.out⟩
theorem aCM {w:World} {v v' : Value} {f g:FuncD} (hf:fP w v f) (hg:fP w v' g):Calls Tryz.prog 46 #[v,v'] w fun e w'=>e = .returned (.bool (decide (f=g)))/\Below w.heap.size w w':=by
 obtain ⟨ap,cp,ab,cb,rfl,hp, -, -,hB⟩:=hf.form
 obtain ⟨am,al,ak,aq,rfl,aw, -, -,ar⟩:=hg.form
 have HP:=h! (And.intro hp aw)
 have HB:=h! (And.intro hB ar)
 obtain ⟨r,hr⟩ : ∃ r,r=decide (f=g):=⟨_,rfl⟩
 obtain ⟨d1,ao⟩ : ∃ r,r=decide (f.params=g.params):=⟨_,rfl⟩
 obtain ⟨d2,an⟩ : ∃ r,r=decide (f.blocks=g.blocks):=⟨_,rfl⟩
 rw [<-hr]
 rw [aAT, <-ao, <-an] at hr
 have HR:=h! hr
 have HD:=h! (And.intro ao an)
 clear hp aw hB ar hr ao an hf hg
 go_enter Tryz.func46,Tryz.ntmps46
 go_upto_region 1 with (fail)
 have aa:=(Below.refl w.heap.size w).alloc (aC _) (.cells #[.slice ap f.params.length cp,.int .i64 f.arrays,.int .i64 f.cells,.slice ab f.blocks.length cb] 25)
 have HW:=h! aa
 clear aa
 have B1:=h! (Box.new w #[.slice ap f.params.length cp,.int .i64 f.arrays,.int .i64 f.cells,.slice ab f.blocks.length cb] 25)
 have ac:(w.alloc (.cells #[.slice ap f.params.length cp,.int .i64 f.arrays,.int .i64 f.cells,.slice ab f.blocks.length cb] 25)).heap.size=w.heap.size+1:=World.size_alloc _ _
 generalize w.alloc (.cells #[.slice ap f.params.length cp,.int .i64 f.arrays,.int .i64 f.cells,.slice ab f.blocks.length cb] 25)=af at *
 have aa:=(Below.refl af.heap.size af).alloc (aC _) (.cells #[.slice am g.params.length al,.int .i64 g.arrays,.int .i64 g.cells,.slice ak g.blocks.length aq] 25)
 replace B1:=h! (B1.out.later aa)
 replace HW:=h! (HW.out.trans (aa.mono HW.out.size))
 clear aa
 have B2:=h! (Box.new af #[.slice am g.params.length al,.int .i64 g.arrays,.int .i64 g.cells,.slice ak g.blocks.length aq] 25)
 rw [ac] at B2
 clear ac
 generalize af.alloc (.cells #[.slice am g.params.length al,.int .i64 g.arrays,.int .i64 g.cells,.slice ak g.blocks.length aq] 25)=wv at *
 obtain ⟨ai,ae,ag⟩:=B1.out
 obtain ⟨ah,ad,aj⟩:=B2.out
 cases h1:(f.arrays == g.arrays)
 ·rw [h1,bF,bF,bF] at HR
  go_wp2
  go_ret
  exact ⟨by rw [HR.out];rfl,HW.out⟩
 rw [h1,bL] at HR
 cases h2:(f.cells == g.cells)
 ·rw [h2,bF,bF] at HR
  go_wp2
  go_ret
  exact ⟨by rw [HR.out];rfl,HW.out⟩
 rw [h2,bL] at HR
 go_wp2_with fail
 refine (pU (HP.out.1.below HW.out) (HP.out.2.below HW.out)).mono ?_
 rintro e w2 ⟨rfl,hb⟩
 rw [<-HD.out.1]
 clear ai ae ag ah ad aj
 replace B1:=h! (B1.out.later hb)
 replace B2:=h! (B2.out.later hb)
 replace HW:=h! (HW.out.trans (hb.mono HW.out.size))
 clear hb
 obtain ⟨ai,ae,ag⟩:=B1.out
 obtain ⟨ah,ad,aj⟩:=B2.out
 cases d1
 ·rw [bF] at HR
  go_wp2
  go_ret
  exact ⟨by rw [HR.out];rfl,HW.out⟩
 rw [bL] at HR
 go_wp2_with fail
 refine (aCL (HB.out.1.below gI.lasting HW.out) (HB.out.2.below gI.lasting HW.out)).mono ?_
 rintro e w3 ⟨rfl,hb⟩
 rw [<-HD.out.2]
 clear ai ae ag ah ad aj
 replace B1:=h! (B1.out.later hb)
 replace B2:=h! (B2.out.later hb)
 replace HW:=h! (HW.out.trans (hb.mono HW.out.size))
 clear hb
 obtain ⟨ai,ae,ag⟩:=B1.out
 obtain ⟨ah,ad,aj⟩:=B2.out
 go_wp2
 go_ret
 exact ⟨by rw [HR.out];rfl,HW.out⟩
def RenR (f:FuncD) (w:World) (e:Ending) (w' : World):Prop := ∃ (g:FuncD) (k:Int) (v:Value) (S:Foot),RenP f g k/\e = .returned (.tuple #[v,.int .i64 k])/\OFunc w' S v g/\kC w.heap.size S/\Below w.heap.size w w'
def aAU (f g:FuncD) (r:Bool):Prop := ∃ (a b:FuncD) (k h:Int),RenP f a k/\RenP g b h/\r=(((k == 0) && (h == 0)) && decide (a=b))
theorem aAV (hren:∀ (W:World) (v:Value) (f:FuncD),fP W v f -> Calls Tryz.prog 11 #[v] W (RenR f W)) {w:World} {v v' : Value} {f g:FuncD} (hf:fP w v f) (hg:fP w v' g) :
  Calls Tryz.prog 15 #[v,v'] w fun e w' => ∃ r,e = .returned (.bool r)/\aAU f g r/\Below w.heap.size w w':=by
 have HF:=h! hf
 have HG:=h! hg
 have bn:=h! hren
 obtain ⟨ap,cp,ab,cb,rfl, -, -, -, -⟩:=hf.form
 obtain ⟨ba,be,bd,bc,rfl, -, -, -, -⟩:=hg.form
 clear hf hg hren
 go_enter Tryz.func15,Tryz.ntmps15
 go_upto_region 1 with (fail)
 have aa:=(Below.refl w.heap.size w).alloc (aC _) (.cells #[.slice ap f.params.length cp,.int .i64 f.arrays,.int .i64 f.cells,.slice ab f.blocks.length cb] 25)
 have HW:=h! aa
 clear aa
 have B1:=h! (Box.new w #[.slice ap f.params.length cp,.int .i64 f.arrays,.int .i64 f.cells,.slice ab f.blocks.length cb] 25)
 have am:(w.alloc (.cells #[.slice ap f.params.length cp,.int .i64 f.arrays,.int .i64 f.cells,.slice ab f.blocks.length cb] 25)).heap.size=w.heap.size+1:=World.size_alloc _ _
 generalize w.alloc (.cells #[.slice ap f.params.length cp,.int .i64 f.arrays,.int .i64 f.cells,.slice ab f.blocks.length cb] 25)=aw at *
 have aa:=(Below.refl aw.heap.size aw).alloc (aC _) (.cells #[.slice ba g.params.length be,.int .i64 g.arrays,.int .i64 g.cells,.slice bd g.blocks.length bc] 25)
 replace B1:=h! (B1.out.later aa)
 replace HW:=h! (HW.out.trans (aa.mono HW.out.size))
 clear aa
 have B2:=h! (Box.new aw #[.slice ba g.params.length be,.int .i64 g.arrays,.int .i64 g.cells,.slice bd g.blocks.length bc] 25)
 rw [am] at B2
 clear am
 generalize aw.alloc (.cells #[.slice ba g.params.length be,.int .i64 g.arrays,.int .i64 g.cells,.slice bd g.blocks.length bc] 25)=wv at *
 obtain ⟨ac,ae,af⟩:=B1.out
 obtain ⟨ad,ag,ah⟩:=B2.out
 go_wp2_with fail
 refine (bn.out _ _ _ (HF.out.below HW.out)).mono ?_
 rintro e w1 ⟨a,k,v1,S1,bf,rfl,az,bm,hb⟩
 obtain ⟨ax,cx,bx,dx,rfl, -, -, -, -⟩:=az.reads.form
 have bo:=h! bf
 have HA:=h! (kN az bm)
 clear bf az bm
 clear ac ae af ad ag ah
 replace B1:=h! (B1.out.later hb)
 replace B2:=h! (B2.out.later hb)
 replace HW:=h! (HW.out.trans (hb.mono HW.out.size))
 clear hb
 obtain ⟨ac,ae,af⟩:=B1.out
 obtain ⟨ad,ag,ah⟩:=B2.out
 go_upto_region 2 with (fail)
 replace HA:=h! (HA.out.more (aC _))
 have al:w1.heap.size ≠ w.heap.size:=fun e=>by have:=ac;omega
 have nB1B3:w.heap.size ≠ w1.heap.size:=fun e=>al e.symm
 have an:w1.heap.size ≠ w.heap.size+1:=fun e=>by have:=ad;omega
 have nB2B3:w.heap.size+1 ≠ w1.heap.size:=fun e=>an e.symm
 clear ac ae af ad ag ah
 have aa:=(Below.refl w1.heap.size w1).alloc (aC _) (.cells #[.slice ax a.params.length cx,.int .i64 a.arrays,.int .i64 a.cells,.slice bx a.blocks.length dx] 25)
 replace B1:=h! (B1.out.later aa)
 replace B2:=h! (B2.out.later aa)
 replace HA:=h! (HA.out.later aa)
 replace HW:=h! (HW.out.trans (aa.mono HW.out.size))
 clear aa
 have B3:=h! (Box.new w1 #[.slice ax a.params.length cx,.int .i64 a.arrays,.int .i64 a.cells,.slice bx a.blocks.length dx] 25)
 generalize w1.alloc (.cells #[.slice ax a.params.length cx,.int .i64 a.arrays,.int .i64 a.cells,.slice bx a.blocks.length dx] 25)=w2 at *
 obtain ⟨ac,ae,af⟩:=B1.out
 obtain ⟨ad,ag,ah⟩:=B2.out
 obtain ⟨ai,aj,ak⟩:=B3.out
 go_wp2_with fail
 refine (bn.out _ _ _ (HG.out.below HW.out)).mono ?_
 rintro e w3 ⟨b,h,v2,S2,bj,rfl,bb,bi,hb⟩
 obtain ⟨ay,cy,dy,ey,rfl, -, -, -, -⟩:=bb.reads.form
 have HP:Hid (RenP f a k/\RenP g b h):=h! ⟨bo.out,bj⟩
 have HB:=h! (kN bb bi)
 clear bj bb bi
 clear ac ae af ad ag ah ai aj ak
 replace B1:=h! (B1.out.later hb)
 replace B2:=h! (B2.out.later hb)
 replace B3:=h! (B3.out.later hb)
 replace HA:=h! (HA.out.later hb)
 replace HW:=h! (HW.out.trans (hb.mono HW.out.size))
 clear hb
 obtain ⟨ac,ae,af⟩:=B1.out
 obtain ⟨ad,ag,ah⟩:=B2.out
 obtain ⟨ai,aj,ak⟩:=B3.out
 go_upto_region 3 with (fail)
 replace HA:=h! (HA.out.more (aC _))
 replace HB:=h! (HB.out.more (aC _))
 have ar:w3.heap.size ≠ w.heap.size:=fun e=>by have:=ac;omega
 have nB1B4:w.heap.size ≠ w3.heap.size:=fun e=>ar e.symm
 have ao:w3.heap.size ≠ w.heap.size+1:=fun e=>by have:=ad;omega
 have nB2B4:w.heap.size+1 ≠ w3.heap.size:=fun e=>ao e.symm
 have aq:w3.heap.size ≠ w1.heap.size:=fun e=>by have:=ai;omega
 have nB3B4:w1.heap.size ≠ w3.heap.size:=fun e=>aq e.symm
 clear ac ae af ad ag ah ai aj ak
 have aa:=(Below.refl w3.heap.size w3).alloc (aC _) (.cells #[.slice ay b.params.length cy,.int .i64 b.arrays,.int .i64 b.cells,.slice dy b.blocks.length ey] 25)
 replace B1:=h! (B1.out.later aa)
 replace B2:=h! (B2.out.later aa)
 replace B3:=h! (B3.out.later aa)
 replace HA:=h! (HA.out.later aa)
 replace HB:=h! (HB.out.later aa)
 replace HW:=h! (HW.out.trans (aa.mono HW.out.size))
 clear aa
 have B4:=h! (Box.new w3 #[.slice ay b.params.length cy,.int .i64 b.arrays,.int .i64 b.cells,.slice dy b.blocks.length ey] 25)
 generalize w3.alloc (.cells #[.slice ay b.params.length cy,.int .i64 b.arrays,.int .i64 b.cells,.slice dy b.blocks.length ey] 25)=w4 at *
 obtain ⟨ac,ae,af⟩:=B1.out
 obtain ⟨ad,ag,ah⟩:=B2.out
 obtain ⟨ai,aj,ak⟩:=B3.out
 obtain ⟨bh,bl,bg⟩:=B4.out
 obtain ⟨r,hr⟩ : ∃ r,r=decide (a=b):=⟨_,rfl⟩
 have bk:=h! hr
 clear hr
 cases hk:(k == 0)
 ·have HR:Hid (false=(((k == 0) && (h == 0)) && decide (a=b))):=h! (by rw [hk];rfl)
  go_wp2
  go_ret
  exact ⟨_,rfl,⟨a,b,k,h,HP.out.1,HP.out.2,HR.out⟩,HW.out⟩
 cases hh:(h == 0)
 ·have HR:Hid (false=(((k == 0) && (h == 0)) && decide (a=b))):=h! (by rw [hk,hh];rfl)
  go_wp2
  go_ret
  exact ⟨_,rfl,⟨a,b,k,h,HP.out.1,HP.out.2,HR.out⟩,HW.out⟩
 have HR:Hid (r=(((k == 0) && (h == 0)) && decide (a=b))):=h! (by rw [hk,hh,bk.out];rfl)
 go_wp2_with fail
 refine (aCM HA.out.now.reads HB.out.now.reads).mono ?_
 rintro e w5 ⟨rfl,hb⟩
 rw [<-bk.out]
 clear ac ae af ad ag ah ai aj ak bh bl bg
 replace B1:=h! (B1.out.later hb)
 replace B2:=h! (B2.out.later hb)
 replace B3:=h! (B3.out.later hb)
 replace B4:=h! (B4.out.later hb)
 replace HA:=h! (HA.out.later hb)
 replace HB:=h! (HB.out.later hb)
 replace HW:=h! (HW.out.trans (hb.mono HW.out.size))
 clear hb
 obtain ⟨ac,ae,af⟩:=B1.out
 obtain ⟨ad,ag,ah⟩:=B2.out
 obtain ⟨ai,aj,ak⟩:=B3.out
 obtain ⟨bh,bl,bg⟩:=B4.out
 go_wp2
 go_ret
 exact ⟨_,rfl,⟨a,b,k,h,HP.out.1,HP.out.2,HR.out⟩,HW.out⟩
end Go.Proofs.YtagabiidbbhhmaaGreat
