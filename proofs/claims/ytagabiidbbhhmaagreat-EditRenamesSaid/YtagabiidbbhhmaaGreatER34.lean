/- Part 34. -/
import Derived.Test.YtagabiidbbhhmaaGreatER33
namespace Go.Proofs.YtagabiidbbhhmaaGreat
set_option maxHeartbeats 6400000
set_option linter.all false
open Go.RowKit
theorem vX (x y:BlockD):decide (x=y)=(((((decide (x.phis=y.phis) && decide (x.code=y.code)) && (x.term.op == y.term.op)) && (x.term.val == y.term.val)) && (x.term.n == y.term.n)) && decide (x.term.to=y.term.to)):=by
 rcases x with ⟨a,b,⟨c,d,e,f⟩⟩
 rcases y with ⟨a',b',⟨c',d',e',f'⟩⟩
 rw [bV]
 simp only [decide_eq_true_eq,aL,beq_iff_eq,BlockD.mk.injEq,TermD.mk.injEq]
 constructor
 ·rintro ⟨rfl,rfl,rfl,rfl,rfl,rfl⟩;simp
 rintro ⟨⟨⟨⟨⟨rfl,rfl⟩,rfl⟩,rfl⟩,rfl⟩,rfl⟩;simp
theorem zB (x y:FuncD):decide (x=y)=((((x.arrays == y.arrays) && (x.cells == y.cells)) && decide (x.params=y.params)) && decide (x.blocks=y.blocks)):=by
 rcases x with ⟨a,b,c,d⟩
 rcases y with ⟨a',b',c',d'⟩
 rw [bV]
 simp only [decide_eq_true_eq,aL,beq_iff_eq,FuncD.mk.injEq]
 constructor
 ·rintro ⟨rfl,rfl,rfl,rfl⟩;simp
 rintro ⟨⟨⟨rfl,rfl⟩,rfl⟩,rfl⟩;simp
theorem vY {w:World} {v v' : Value} {x y:BlockD} (hx:BlockV w v x) (hy:BlockV w v' y):Calls Tryz.prog 83 #[v,v'] w fun e w'=>e = .returned (.bool (decide (x=y)))/\Below w.heap.size w w':=by
 obtain ⟨⟨pv,uv,tv,rfl,hp,hc,ht⟩, -, -, -⟩:=hx
 obtain ⟨⟨pv',uv',tv',rfl,br,bs,bp⟩, -, -, -⟩:=hy
 obtain ⟨pa,pc,rfl⟩:=hp.form
 obtain ⟨ua,uc,rfl⟩:=hc.form
 obtain ⟨ta,tc,rfl⟩:=ht.form
 obtain ⟨bn,bv,rfl⟩:=br.form
 obtain ⟨bl,bt,rfl⟩:=bs.form
 obtain ⟨aj,ai,rfl⟩:=bp.form
 have HP:=h! (And.intro hp br)
 have HC:=h! (And.intro hc bs)
 have HT:=h! (And.intro ht bp)
 obtain ⟨r,hr⟩ : ∃ r,r=decide (x=y):=⟨_,rfl⟩
 obtain ⟨d1,bq⟩ : ∃ r,r=decide (x.phis=y.phis):=⟨_,rfl⟩
 obtain ⟨d2,bm⟩ : ∃ r,r=decide (x.code=y.code):=⟨_,rfl⟩
 obtain ⟨d3,bo⟩ : ∃ r,r=decide (x.term.to=y.term.to):=⟨_,rfl⟩
 rw [<-hr]
 rw [vX, <-bq, <-bm, <-bo] at hr
 have HR:=h! hr
 have HD:=h! (And.intro bq (And.intro bm bo))
 clear hp hc ht br bs bp hr bq bm bo
 go_enter Tryz.func83,Tryz.ntmps83
 go_upto_region 1 with (fail)
 have am:=(Below.refl w.heap.size w).alloc (aB _) (.cells #[.slice pa x.phis.length pc,.slice ua x.code.length uc,.int .i64 x.term.op,.int .i64 x.term.val,.slice ta x.term.to.length tc,.int .i64 x.term.n] 63)
 have HW:=h! am
 clear am
 have B1:=h! (Box.new w #[.slice pa x.phis.length pc,.slice ua x.code.length uc,.int .i64 x.term.op,.int .i64 x.term.val,.slice ta x.term.to.length tc,.int .i64 x.term.n] 63)
 have bb:(w.alloc (.cells #[.slice pa x.phis.length pc,.slice ua x.code.length uc,.int .i64 x.term.op,.int .i64 x.term.val,.slice ta x.term.to.length tc,.int .i64 x.term.n] 63)).heap.size=w.heap.size+1:=World.size_alloc _ _
 generalize w.alloc (.cells #[.slice pa x.phis.length pc,.slice ua x.code.length uc,.int .i64 x.term.op,.int .i64 x.term.val,.slice ta x.term.to.length tc,.int .i64 x.term.n] 63)=bf at *
 have am:=(Below.refl bf.heap.size bf).alloc (aB _) (.cells #[.slice bn y.phis.length bv,.slice bl y.code.length bt,.int .i64 y.term.op,.int .i64 y.term.val,.slice aj y.term.to.length ai,.int .i64 y.term.n] 63)
 replace B1:=h! (B1.out.later am)
 replace HW:=h! (HW.out.trans (am.mono HW.out.size))
 clear am
 have B2:=h! (Box.new bf #[.slice bn y.phis.length bv,.slice bl y.code.length bt,.int .i64 y.term.op,.int .i64 y.term.val,.slice aj y.term.to.length ai,.int .i64 y.term.n] 63)
 rw [bb] at B2
 clear bb
 generalize bf.alloc (.cells #[.slice bn y.phis.length bv,.slice bl y.code.length bt,.int .i64 y.term.op,.int .i64 y.term.val,.slice aj y.term.to.length ai,.int .i64 y.term.n] 63)=wv at *
 obtain ⟨ac,ah,ag⟩:=B1.out
 obtain ⟨ad,ae,af⟩:=B2.out
 go_wp2_with fail
 refine (aF8 (HP.out.1.below PhiR.lasting HW.out) (HP.out.2.below PhiR.lasting HW.out)).mono ?_
 rintro e w2 ⟨rfl,hb⟩
 rw [<-HD.out.1]
 clear ac ah ag ad ae af
 replace B1:=h! (B1.out.later hb)
 replace B2:=h! (B2.out.later hb)
 replace HW:=h! (HW.out.trans (hb.mono HW.out.size))
 clear hb
 obtain ⟨ac,ah,ag⟩:=B1.out
 obtain ⟨ad,ae,af⟩:=B2.out
 go_wp2_with fail
 refine (aF9 (HC.out.1.below iB.lasting HW.out) (HC.out.2.below iB.lasting HW.out)).mono ?_
 rintro e w3 ⟨rfl,hb⟩
 rw [<-HD.out.2.1]
 clear ac ah ag ad ae af
 replace B1:=h! (B1.out.later hb)
 replace B2:=h! (B2.out.later hb)
 replace HW:=h! (HW.out.trans (hb.mono HW.out.size))
 clear hb
 obtain ⟨ac,ah,ag⟩:=B1.out
 obtain ⟨ad,ae,af⟩:=B2.out
 go_upto_region 3 with (fail)
 refine Seven.wp_region_grow 7 (fun kz=>match kz with | 4=>some 6 | _=>none) (fun ν kz=>match kz with | 4=>.holds (Seven.MadeS (fun b=>.pointer (some ⟨b,0,none⟩)) #[.int .i64 0,.int .i64 0,.slice none 0 0,.int .i64 0]) | 5=>.holds (Seven.MadeS (fun b=>.pointer (some ⟨b,0,none⟩)) #[.int .i64 0,.int .i64 0,.slice none 0 0,.int .i64 0]) | 6=>.holds (Seven.FillS (ν 4).1 #[.int .i64 x.term.op,.int .i64 x.term.val,.slice ta x.term.to.length tc,.int .i64 x.term.n]) | _=>.plain) (by kernel_rfl) (by kernel_rfl) ?_ ?_ ?_ (fun ν => ?_)
 ·(intro ν k;(try dsimp only);split <;> first | exact True.intro | (intro u φ w1 w2 D hu ho bd hDb hlt hn;first | exact Seven.MadeS.off hu ho bd | (exact hu.off ho bd)))
 ·(intro ν ν' k h;first | rfl | ((try dsimp only);split <;> first | rfl | (rw [h 4 (by kernel_rfl)])))
 ·(intro j k h;(try dsimp only at h);split at h <;> first | (cases h;done) | (cases h;exact ⟨by kernel_rfl,by omega⟩))
 simp only [aO,aS,aP,aU]
 iterate 4 (refine Seven.Grow.val (v := ?_) rfl rfl (fun wg hbg hdg => ?_) ?_;rotate_left;(focus ((obtain ⟨lg0,cg0,fg0⟩:=B1.out.later hbg);(obtain ⟨lg1,cg1,fg1⟩:=B2.out.later hbg);clear hbg hdg;first | (go_simp;done) | (go_simp;with_reducible rfl)));simp only [Act.put,aA,aD,aE])
 iterate 2 (refine Seven.Grow.made (T := ?_) rfl rfl (fun wg hbg hdg => ?_) ?_;rotate_left;(focus ((obtain ⟨lg0,cg0,fg0⟩:=B1.out.later hbg);(obtain ⟨lg1,cg1,fg1⟩:=B2.out.later hbg);clear hbg hdg;first | (go_simp;done) | (go_simp;with_reducible rfl)));simp only [Act.put,Seven.Known.val,aA,aD,aE])
 refine Seven.Grow.turns rfl (by intro h;cases h) (fun wg hbg hdg => ?_) ?_
 focus ((have hMz:Seven.MadeS (fun b=>.pointer (some ⟨b,0,none⟩)) #[.int .i64 0,.int .i64 0,.slice none 0 0,.int .i64 0] (ν 4).1 (ν 4).2 wg:=hdg.fact 4 ⟨by kernel_rfl,.inr rfl⟩);(obtain ⟨bz,hbe,hφz,hXz⟩:=hMz);simp only [hbe];refine ⟨_, ?_,Foot.one bz,⟨bz,rfl,fun k=>Iff.rfl,(qN hXz (.int .i64 x.term.op) (.int .i64 x.term.val) (.slice ta x.term.to.length tc) (.int .i64 x.term.n)).2⟩,(qO (qN hXz (.int .i64 x.term.op) (.int .i64 x.term.val) (.slice ta x.term.to.length tc) (.int .i64 x.term.n)).1).mono (fun q _ hq=>⟨4,rfl,(hφz q).2 hq⟩),fun q hq=>⟨.inl ⟨4,rfl,(hφz q).2 hq⟩,by cases hq;exact (qN hXz (.int .i64 x.term.op) (.int .i64 x.term.val) (.slice ta x.term.to.length tc) (.int .i64 x.term.n)).2.lt⟩⟩;obtain ⟨lgz,cgz,fgz⟩:=hXz;(obtain ⟨lg0,cg0,fg0⟩:=B1.out.later hbg);(obtain ⟨lg1,cg1,fg1⟩:=B2.out.later hbg);clear hbg hdg;first | (go_simp;done) | (go_simp;with_reducible rfl))
 simp only [Act.put,Seven.Known.val,aA,aD,aE]
 intro wg hb hf
 obtain ⟨ab,aw,ak,bc⟩:=hf.fact 6 ⟨by omega,rfl⟩
 have aq:w3.heap.size <= ab:=hf.base 6 ab ⟨by omega,rfl⟩ ((ak ab).2 rfl)
 have an:ab ≠ w.heap.size:=fun e=>by have:=ac;omega
 have nB1BP:w.heap.size ≠ ab:=fun e=>an e.symm
 have ax:ab ≠ w.heap.size+1:=fun e=>by have:=ad;omega
 have nB2BP:w.heap.size+1 ≠ ab:=fun e=>ax e.symm
 obtain ⟨aa,ap,al,az⟩:=hf.fact 5 ⟨by omega,rfl⟩
 have ba:w3.heap.size <= aa:=hf.base 5 aa ⟨by omega,rfl⟩ ((al aa).2 rfl)
 have ao:aa ≠ w.heap.size:=fun e=>by have:=ac;omega
 have nB1BR:w.heap.size ≠ aa:=fun e=>ao e.symm
 have ar:aa ≠ w.heap.size+1:=fun e=>by have:=ad;omega
 have nB2BR:w.heap.size+1 ≠ aa:=fun e=>ar e.symm
 have nBPBR:ab ≠ aa:=fun e=>hf.apart 6 5 ⟨by omega,rfl⟩ ⟨by omega,rfl⟩ (by omega) ab ((ak ab).2 rfl) ((al ab).2 e)
 have nBRBP:aa ≠ ab:=fun e=>hf.apart 5 6 ⟨by omega,rfl⟩ ⟨by omega,rfl⟩ (by omega) aa ((al aa).2 rfl) ((ak aa).2 e)
 simp only [aw,ap]
 clear aw ap
 have gBP:=bE HW.out.size aq
 clear aq
 have gBR:=bE HW.out.size ba
 clear ba
 clear ac ah ag ad ae af
 have hbv:=hb
 replace B1:=h! (B1.out.later hb)
 replace B2:=h! (B2.out.later hb)
 replace HW:=h! (HW.out.trans (hb.mono HW.out.size))
 clear hb
 have BP:=h! bc
 clear bc
 have BR:=h! az
 clear az
 obtain ⟨ac,ah,ag⟩:=B1.out
 obtain ⟨ad,ae,af⟩:=B2.out
 obtain ⟨bj,bi,bh⟩:=BP.out
 obtain ⟨bk,be,bg⟩:=BR.out
 clear hf
 go_upto_region 4 with (fail)
 clear ac ah ag ad ae af bj bi bh bk be bg
 have ay:=((((Only.set wg (aa) 0 (.int .i64 y.term.op)).put 1 (.int .i64 y.term.val)).put 2 (.slice aj y.term.to.length ai)).put 3 (.int .i64 y.term.n))
 replace B1:=h! (B1.out.only ay (by first | assumption | (simp;done) | omega))
 replace B2:=h! (B2.out.only ay (by first | assumption | (simp;done) | omega))
 replace BP:=h! (BP.out.only ay (by first | assumption | (simp;done) | omega))
 replace HW:=h! (ay.2.2 HW.out (by first | assumption | omega | (have:=HW.out.size;omega) | (simp;done) | (simp;omega)))
 replace BR:=h! (Box.to (A':=#[(.int .i64 y.term.op),(.int .i64 y.term.val),(.slice aj y.term.to.length ai),(.int .i64 y.term.n)]) ((((BR.out.set 0 (.int .i64 y.term.op)).set 1 (.int .i64 y.term.val)).set 2 (.slice aj y.term.to.length ai)).set 3 (.int .i64 y.term.n)) (by first | rfl | simp))
 clear ay
 generalize ((((wg.setCell ⟨aa,0,none⟩ (.int .i64 y.term.op)).setCell ⟨aa,1,none⟩ (.int .i64 y.term.val)).setCell ⟨aa,2,none⟩ (.slice aj y.term.to.length ai)).setCell ⟨aa,3,none⟩ (.int .i64 y.term.n))=w4 at *
 obtain ⟨ac,ah,ag⟩:=B1.out
 obtain ⟨ad,ae,af⟩:=B2.out
 obtain ⟨bj,bi,bh⟩:=BP.out
 obtain ⟨bk,be,bg⟩:=BR.out
 cases d1
 ·rw [bG,bG,bG,bG,bG] at HR
  go_wp2
  go_ret
  exact ⟨by rw [HR.out];rfl,HW.out⟩
 rw [bN] at HR
 cases d2
 ·rw [bG,bG,bG,bG] at HR
  go_wp2
  go_ret
  exact ⟨by rw [HR.out];rfl,HW.out⟩
 rw [bN] at HR
 cases h1:(x.term.op == y.term.op)
 ·rw [h1,bG,bG,bG] at HR
  go_wp2
  go_ret
  exact ⟨by rw [HR.out];rfl,HW.out⟩
 rw [h1,bN] at HR
 cases h2:(x.term.val == y.term.val)
 ·rw [h2,bG,bG] at HR
  go_wp2
  go_ret
  exact ⟨by rw [HR.out];rfl,HW.out⟩
 rw [h2,bN] at HR
 cases h3:(x.term.n == y.term.n)
 ·rw [h3,bG] at HR
  go_wp2
  go_ret
  exact ⟨by rw [HR.out];rfl,HW.out⟩
 rw [h3,bN] at HR
 go_wp2_with fail
 refine (qH (HT.out.1.below HW.out) (HT.out.2.below HW.out)).mono ?_
 rintro e w5 ⟨rfl,hb⟩
 rw [<-HD.out.2.2]
 clear ac ah ag ad ae af bj bi bh bk be bg
 replace B1:=h! (B1.out.later hb)
 replace B2:=h! (B2.out.later hb)
 replace BP:=h! (BP.out.later hb)
 replace BR:=h! (BR.out.later hb)
 replace HW:=h! (HW.out.trans (hb.mono HW.out.size))
 clear hb
 obtain ⟨ac,ah,ag⟩:=B1.out
 obtain ⟨ad,ae,af⟩:=B2.out
 obtain ⟨bj,bi,bh⟩:=BP.out
 obtain ⟨bk,be,bg⟩:=BR.out
 go_wp2
 go_ret
 exact ⟨by rw [HR.out];rfl,HW.out⟩
theorem qK:Enters Tryz.prog 83:=enters_of Tryz.func83 (by kernel_rfl) rfl
theorem aBY {w:World} {v v' : Value} {xs ys:List BlockD} (hv:eX gR 6 w v xs) (hv' : eX gR 6 w v' ys) :
  Calls Tryz.prog 82 #[v,v',.func (.func 83) #[] #[]] w fun e w'=>e = .returned (.bool (decide (xs=ys)))/\Below w.heap.size w w':=by
 obtain ⟨a1,c1,b1,o1,ae,be,hm1,aw,ac,hx⟩:=eY hv
 cases ae
 obtain ⟨a2,c2,b2,o2,ae,bc,hm2,ba,af,hy⟩:=eY hv'
 cases ae
 obtain ⟨n1,ab⟩ : ∃ n,n=xs.length:=⟨_,rfl⟩
 obtain ⟨n2,ah⟩ : ∃ n,n=ys.length:=⟨_,rfl⟩
 rw [<-ab] at be aw ac ⊢
 rw [<-ah] at bc ba af ⊢
 have G1:=h! ab
 have G2:=h! ah
 have bd:=h! ac
 have az:=h! af
 have HX:=h! hx
 have HY:=h! hy
 have HW:=h! (Below.refl w.heap.size w)
 obtain ⟨r,hr⟩ : ∃ r,r=decide (xs=ys):=⟨_,rfl⟩
 rw [<-hr]
 have HR:=h! hr
 clear hv hv' ab ah ac af hx hy hr
 have eg1:∀ (args:Array Value) (w:World),(callFunc 83 args).run Tryz.prog w = .ok (.enter 83 args) w:=qK
 by_cases hnn:n1=n2
 rotate_left
 ·have ar:((n1:Int) != (n2:Int))=true:=by simp;omega
  have ag:Hid (r=false):=h! (by rw [HR.out,decide_eq_false_iff_not];intro h;have h1:=G1.out;have h2:=G2.out;rw [h] at h1;omega)
  go_enter Tryz.func82,Tryz.ntmps82
  go_wp2
  go_ret
  exact ⟨by rw [ag.out];rfl,HW.out⟩
 have HNN:=h! hnn
 subst hnn
 have ar:((n1:Int) != (n1:Int))=false:=by simp
 go_enter Tryz.func82,Tryz.ntmps82
 go_wp2_with fail
 clear ar
 go_loopw [17] (fun i wr => ∃ j:Nat,j <= n1/\i = .int .i64 j/\xs.take j=ys.take j/\Below w.heap.size w wr) (fun i _=>n1 - (intOf i).toNat)
 case atStart=>exact ⟨0,aJ _,rfl,rfl,HW.out⟩
 case round =>
  obtain ⟨j,hj,rfl,hs,hW⟩:=hrel
  have HS:=h! hs
  replace HW:=h! hW
  clear hs hW
  generalize wr=w3 at *
  by_cases hlt:j < n1
  ·obtain ⟨rfl,ao⟩:=bd.out (by omega)
   obtain ⟨rfl,am⟩:=az.out (by omega)
   obtain ⟨p,hp⟩ : ∃ p,xs[j]? = some p:=⟨_,aC (by have:=G1.out;omega)⟩
   obtain ⟨q,hq⟩ : ∃ q,ys[j]? = some q:=⟨_,aC (by have:=G2.out;omega)⟩
   obtain ⟨ap,ai,aa,cp,ci,ct,hP⟩:=HX.out j p hp
   obtain ⟨dp,di,dt,ep,ei,et,hQ⟩:=HY.out j q hq
   have HP:=h! hP
   have HQ:=h! hQ
   have aj:=h! hp
   have an:=h! hq
   obtain ⟨m0,m1,m2,m3,m4,m5, -, -, -, -, -, -⟩:=hP.below HW.out ao
   clear hp hq hP hQ
   go_upto_region 6 with (fail)
   clear m0 m1 m2 m3 m4 m5
   have ak:Hid (Below w3.heap.size w3 (w3.alloc (.cells #[.slice ap p.phis.length cp,.slice ai p.code.length ci,.int .i64 p.term.op,.int .i64 p.term.val,.slice aa p.term.to.length ct,.int .i64 p.term.n] 63))):=h! ((Below.refl _ _).alloc (aB _) _)
   have B5:=h! (Box.new w3 #[.slice ap p.phis.length cp,.slice ai p.code.length ci,.int .i64 p.term.op,.int .i64 p.term.val,.slice aa p.term.to.length ct,.int .i64 p.term.n] 63)
   obtain ⟨b5,aq⟩ : ∃ b5,b5=w3.heap.size:=⟨_,rfl⟩
   rw [<-aq] at B5 ⊢
   generalize w3.alloc (.cells #[.slice ap p.phis.length cp,.slice ai p.code.length ci,.int .i64 p.term.op,.int .i64 p.term.val,.slice aa p.term.to.length ct,.int .i64 p.term.n] 63)=w5 at *
   clear aq
   replace HW:=h! (HW.out.trans (ak.out.mono HW.out.size))
   clear ak
   obtain ⟨m0,m1,m2,m3,m4,m5, -, -, -, -, -, -⟩:=HQ.out.below HW.out am
   go_upto_region 7 with (fail)
   clear m0 m1 m2 m3 m4 m5
   have ad:Hid (Below w5.heap.size w5 (w5.alloc (.cells #[.slice dp q.phis.length ep,.slice di q.code.length ei,.int .i64 q.term.op,.int .i64 q.term.val,.slice dt q.term.to.length et,.int .i64 q.term.n] 63))):=h! ((Below.refl _ _).alloc (aB _) _)
   have B6:=h! (Box.new w5 #[.slice dp q.phis.length ep,.slice di q.code.length ei,.int .i64 q.term.op,.int .i64 q.term.val,.slice dt q.term.to.length et,.int .i64 q.term.n] 63)
   obtain ⟨b6,al⟩ : ∃ b6,b6=w5.heap.size:=⟨_,rfl⟩
   rw [<-al] at B6 ⊢
   generalize w5.alloc (.cells #[.slice dp q.phis.length ep,.slice di q.code.length ei,.int .i64 q.term.op,.int .i64 q.term.val,.slice dt q.term.to.length et,.int .i64 q.term.n] 63)=w6 at *
   clear al
   replace HW:=h! (HW.out.trans (ad.out.mono HW.out.size))
   replace B5:=h! (B5.out.later ad.out)
   clear ad
   obtain ⟨c,hc⟩ : ∃ c,c=decide (p=q):=⟨_,rfl⟩
   have HC:=h! hc
   have HCT:Hid (Calls Tryz.prog 83 #[.agg #[.slice ap p.phis.length cp,.slice ai p.code.length ci,.int .i64 p.term.op,.int .i64 p.term.val,.slice aa p.term.to.length ct,.int .i64 p.term.n],.agg #[.slice dp q.phis.length ep,.slice di q.code.length ei,.int .i64 q.term.op,.int .i64 q.term.val,.slice dt q.term.to.length et,.int .i64 q.term.n]] w6 fun e w'=>e = .returned (.bool c)/\Below w6.heap.size w6 w'):=h! (by rw [hc];exact (vY (HP.out.below HW.out ao).blockV (HQ.out.below HW.out am).blockV))
   clear hc
   obtain ⟨l5,k5,f5⟩:=B5.out
   obtain ⟨l6,k6,f6⟩:=B6.out
   cases c
   ·go_wp2_with (go_at_fn 83;refine HCT.out.mono ?_;rintro e w7 ⟨rfl,hb7⟩;have HB7:=h! hb7;clear hb7)
    have ag:Hid (r=false):=h! (by rw [HR.out,decide_eq_false_iff_not];intro h;have h1:=HC.out;rw [rG h aj.out an.out] at h1;simp at h1)
    go_ret
    exact ⟨by rw [ag.out];rfl,HW.out.trans (HB7.out.mono HW.out.size)⟩
   go_wp2_with (go_at_fn 83;refine HCT.out.mono ?_;rintro e w7 ⟨rfl,hb7⟩;have HB7:=h! hb7;clear hb7)
   have bb:Hid (xs.take (j+1)=ys.take (j+1)):=h! ((pL HS.out aj.out an.out).2 (by have h1:=HC.out;simpa using h1.symm))
   have ay:=h! (HW.out.trans (HB7.out.mono HW.out.size))
   go_roundw
   case rel=>exact ⟨j+1,hlt,by go_num,bb.out,ay.out⟩
   simp [intOf];omega
  have ax:Hid (r=true):=h! (by rw [HR.out,decide_eq_true_eq];have h9:=HS.out;obtain rfl:j=n1:=(by omega);exact rF h9 G1.out.symm G2.out.symm)
  go_wp2
  go_ret
  exact ⟨by rw [ax.out];rfl,HW.out⟩
theorem aBZ {w:World} {v v' : Value} {f g:FuncD} (hf:fU w v f) (hg:fU w v' g):Calls Tryz.prog 46 #[v,v'] w fun e w'=>e = .returned (.bool (decide (f=g)))/\Below w.heap.size w w':=by
 obtain ⟨ap,cp,ab,cb,rfl,hp, -, -,hB⟩:=hf.form
 obtain ⟨aq,ao,am,an,rfl,aw, -, -,ar⟩:=hg.form
 have HP:=h! (And.intro hp aw)
 have HB:=h! (And.intro hB ar)
 obtain ⟨r,hr⟩ : ∃ r,r=decide (f=g):=⟨_,rfl⟩
 obtain ⟨d1,al⟩ : ∃ r,r=decide (f.params=g.params):=⟨_,rfl⟩
 obtain ⟨d2,ak⟩ : ∃ r,r=decide (f.blocks=g.blocks):=⟨_,rfl⟩
 rw [<-hr]
 rw [zB, <-al, <-ak] at hr
 have HR:=h! hr
 have HD:=h! (And.intro al ak)
 clear hp aw hB ar hr al ak hf hg
 go_enter Tryz.func46,Tryz.ntmps46
 go_upto_region 1 with (fail)
 have aa:=(Below.refl w.heap.size w).alloc (aB _) (.cells #[.slice ap f.params.length cp,.int .i64 f.arrays,.int .i64 f.cells,.slice ab f.blocks.length cb] 25)
 have HW:=h! aa
 clear aa
 have B1:=h! (Box.new w #[.slice ap f.params.length cp,.int .i64 f.arrays,.int .i64 f.cells,.slice ab f.blocks.length cb] 25)
 have ac:(w.alloc (.cells #[.slice ap f.params.length cp,.int .i64 f.arrays,.int .i64 f.cells,.slice ab f.blocks.length cb] 25)).heap.size=w.heap.size+1:=World.size_alloc _ _
 generalize w.alloc (.cells #[.slice ap f.params.length cp,.int .i64 f.arrays,.int .i64 f.cells,.slice ab f.blocks.length cb] 25)=af at *
 have aa:=(Below.refl af.heap.size af).alloc (aB _) (.cells #[.slice aq g.params.length ao,.int .i64 g.arrays,.int .i64 g.cells,.slice am g.blocks.length an] 25)
 replace B1:=h! (B1.out.later aa)
 replace HW:=h! (HW.out.trans (aa.mono HW.out.size))
 clear aa
 have B2:=h! (Box.new af #[.slice aq g.params.length ao,.int .i64 g.arrays,.int .i64 g.cells,.slice am g.blocks.length an] 25)
 rw [ac] at B2
 clear ac
 generalize af.alloc (.cells #[.slice aq g.params.length ao,.int .i64 g.arrays,.int .i64 g.cells,.slice am g.blocks.length an] 25)=wv at *
 obtain ⟨aj,ah,ai⟩:=B1.out
 obtain ⟨ad,ae,ag⟩:=B2.out
 cases h1:(f.arrays == g.arrays)
 ·rw [h1,bG,bG,bG] at HR
  go_wp2
  go_ret
  exact ⟨by rw [HR.out];rfl,HW.out⟩
 rw [h1,bN] at HR
 cases h2:(f.cells == g.cells)
 ·rw [h2,bG,bG] at HR
  go_wp2
  go_ret
  exact ⟨by rw [HR.out];rfl,HW.out⟩
 rw [h2,bN] at HR
 go_wp2_with fail
 refine (qH (HP.out.1.below HW.out) (HP.out.2.below HW.out)).mono ?_
 rintro e w2 ⟨rfl,hb⟩
 rw [<-HD.out.1]
 clear aj ah ai ad ae ag
 replace B1:=h! (B1.out.later hb)
 replace B2:=h! (B2.out.later hb)
 replace HW:=h! (HW.out.trans (hb.mono HW.out.size))
 clear hb
 obtain ⟨aj,ah,ai⟩:=B1.out
 obtain ⟨ad,ae,ag⟩:=B2.out
 cases d1
 ·rw [bG] at HR
  go_wp2
  go_ret
  exact ⟨by rw [HR.out];rfl,HW.out⟩
 rw [bN] at HR
 go_wp2_with fail
 refine (aBY (HB.out.1.below gR.lasting HW.out) (HB.out.2.below gR.lasting HW.out)).mono ?_
 rintro e w3 ⟨rfl,hb⟩
 rw [<-HD.out.2]
 clear aj ah ai ad ae ag
 replace B1:=h! (B1.out.later hb)
 replace B2:=h! (B2.out.later hb)
 replace HW:=h! (HW.out.trans (hb.mono HW.out.size))
 clear hb
 obtain ⟨aj,ah,ai⟩:=B1.out
 obtain ⟨ad,ae,ag⟩:=B2.out
 go_wp2
 go_ret
 exact ⟨by rw [HR.out];rfl,HW.out⟩
end Go.Proofs.YtagabiidbbhhmaaGreat
