/- Part 33. -/
import Derived.Test.YtagabiidbbhhmaaGreatER31
import Derived.Test.YtagabiidbbhhmaaGreatER32
namespace Go.Proofs.YtagabiidbbhhmaaGreat
set_option linter.all false
open Go.RowKit
theorem aCO {x y:BlockD} (h1:x.phis=y.phis) (h2:x.code=y.code) (h3:x.term.op=y.term.op) (h4:x.term.val=y.term.val) (h5:x.term.to=y.term.to) (h6:x.term.n=y.term.n):x=y:=by
 obtain ⟨a,b,o,v,t,n⟩:=x
 obtain ⟨a',b',o',v',t',n'⟩:=y
 simp only at h1 h2 h3 h4 h5 h6
 subst h1 h2 h3 h4 h5 h6
 rfl
theorem aFS {x y:PhiD} (h1:x.id=y.id) (h2:x.typ=y.typ) (h3:x.src=y.src) (h4:x.vals=y.vals):x=y:=by
 obtain ⟨a,b,c,d⟩:=x
 obtain ⟨a',b',c',d'⟩:=y
 simp only at h1 h2 h3 h4
 subst h1 h2 h3 h4
 rfl
theorem aCP {x y:InstrD} (h1:x.op=y.op) (h2:x.id=y.id) (h3:x.args=y.args) (h4:x.n=y.n):x=y:=by
 obtain ⟨a,b,c,d⟩:=x
 obtain ⟨a',b',c',d'⟩:=y
 simp only at h1 h2 h3 h4
 subst h1 h2 h3 h4
 rfl
theorem oV {α : Type} {xs ys:List α} {n:Nat} (h1:n=xs.length) (h2:n=ys.length) (h:∀ j,j < n -> xs[j]? = ys[j]?):xs=ys:=by
 apply bJ
 intro j
 by_cases hj:j < n
 ·exact h j hj
 rw [aT (by omega),aT (by omega)]
set_option maxHeartbeats 25600000 in
set_option maxRecDepth 100000 in
theorem sO {w:World} {v u:Value} {x y:BlockD} (hv:BlockV w v x) (hu:BlockV w u y) :
  Calls Tryz.prog 45 #[v,u] w fun e w'=>e = .returned (.bool (decide (x=y)))/\Below w.heap.size w w':=by
 obtain ⟨⟨pv,uv,tv,rfl,hp,hc,ht⟩, -, -, -⟩:=hv
 obtain ⟨⟨pv2,uv2,tv2,rfl,fg,cq,dp⟩, -, -, -⟩:=hu
 obtain ⟨ap,cp,bp,op_,rfl,fp,hpm, -,ej,fb⟩:=fQ hp
 obtain ⟨ac,cc,bc,oc,rfl,fk,hcm, -,eh,fe⟩:=fZ hc
 obtain ⟨ta,tc,rfl⟩:=ht.form
 obtain ⟨cz,ct,bp2,op2,rfl,ew,hpm2, -,cg,cs⟩:=fQ fg
 obtain ⟨db,de,bc2,oc2,rfl,ee,hcm2, -,cm,da⟩:=fZ cq
 obtain ⟨cy,cx,rfl⟩:=dp.form
 obtain ⟨pl,dt⟩ : ∃ n,n=x.phis.length:=⟨_,rfl⟩
 obtain ⟨cl,dr⟩ : ∃ n,n=x.code.length:=⟨_,rfl⟩
 obtain ⟨tl,ed⟩ : ∃ n,n=x.term.to.length:=⟨_,rfl⟩
 obtain ⟨pl2,bO⟩ : ∃ n,n=y.phis.length:=⟨_,rfl⟩
 obtain ⟨cl2,bx⟩ : ∃ n,n=y.code.length:=⟨_,rfl⟩
 obtain ⟨cL,ch⟩ : ∃ n,n=y.term.to.length:=⟨_,rfl⟩
 obtain ⟨o1,ev⟩ : ∃ n,n=x.term.op:=⟨_,rfl⟩
 obtain ⟨v1,er⟩ : ∃ n,n=x.term.val:=⟨_,rfl⟩
 obtain ⟨n1,dy⟩ : ∃ n,n=x.term.n:=⟨_,rfl⟩
 obtain ⟨o2,en⟩ : ∃ n,n=y.term.op:=⟨_,rfl⟩
 obtain ⟨v2,em⟩ : ∃ n,n=y.term.val:=⟨_,rfl⟩
 obtain ⟨n2,ey⟩ : ∃ n,n=y.term.n:=⟨_,rfl⟩
 obtain ⟨q,hq⟩ : ∃ q,q=decide (x=y):=⟨_,rfl⟩
 rw [<-hq, <-dt, <-dr, <-ed, <-bO, <-bx, <-ch, <-ev, <-er, <-dy, <-en, <-em, <-ey]
 rw [<-dt] at fp ej
 rw [<-dr] at fk eh
 rw [<-bO] at ew cg
 rw [<-bx] at ee cm
 rw [<-ed] at ht
 rw [<-ch] at dp
 have HQ:=h! hq
 have eb:=h! dt
 have ep:=h! dr
 have cj:=h! bO
 have ce:=h! bx
 have dx:=h! ev
 have eo:=h! er
 have ei:=h! dy
 have es:=h! en
 have dz:=h! em
 have eg:=h! ey
 have ff:=h! ej
 have fa:=h! fb
 have fi:=h! eh
 have fz:=h! fe
 have dn:=h! cg
 have dm:=h! cs
 have ec:=h! cm
 have ef:=h! da
 have fd:=h! ht
 have ez:=h! dp
 clear hp hc ht fg cq dp hq dt dr ed bO bx ch ev er dy en em ey ej fb eh fe cg cs cm da
 go_enter Tryz.func45,Tryz.ntmps45
 go_upto_region 1 with (fail)
 have co:=(Below.refl w.heap.size w).alloc (aB _) (.cells #[.slice ap pl cp,.slice ac cl cc,.int .i64 o1,.int .i64 v1,.slice ta tl tc,.int .i64 n1] 63)
 have HW:=h! co
 clear co
 have B1:=h! (Box.new w #[.slice ap pl cp,.slice ac cl cc,.int .i64 o1,.int .i64 v1,.slice ta tl tc,.int .i64 n1] 63)
 have df:(w.alloc (.cells #[.slice ap pl cp,.slice ac cl cc,.int .i64 o1,.int .i64 v1,.slice ta tl tc,.int .i64 n1] 63)).heap.size=w.heap.size+1:=World.size_alloc _ _
 generalize w.alloc (.cells #[.slice ap pl cp,.slice ac cl cc,.int .i64 o1,.int .i64 v1,.slice ta tl tc,.int .i64 n1] 63)=dq at *
 have co:=(Below.refl dq.heap.size dq).alloc (aB _) (.cells #[.slice cz pl2 ct,.slice db cl2 de,.int .i64 o2,.int .i64 v2,.slice cy cL cx,.int .i64 n2] 63)
 replace B1:=h! (B1.out.later co)
 replace HW:=h! (HW.out.trans (co.mono HW.out.size))
 clear co
 have B2:=h! (Box.new dq #[.slice cz pl2 ct,.slice db cl2 de,.int .i64 o2,.int .i64 v2,.slice cy cL cx,.int .i64 n2] 63)
 rw [df] at B2
 clear df
 generalize dq.alloc (.cells #[.slice cz pl2 ct,.slice db cl2 de,.int .i64 o2,.int .i64 v2,.slice cy cL cx,.int .i64 n2] 63)=wv at *
 obtain ⟨ae,ak,aj⟩:=B1.out
 obtain ⟨ag,ah,ai⟩:=B2.out
 cases h1:((pl:Int) != (pl2:Int))
 rotate_left
 ·skip
  have ab:q=false:=by rw [HQ.out];exact decide_eq_false (fun e=>(by have h9:pl ≠ pl2:=(by simp at h1;omega);exact h9 (by rw [eb.out,cj.out,e])))
  subst ab
  go_wp2
  go_ret
  exact ⟨rfl,HW.out⟩
 cases h2:((cl:Int) != (cl2:Int))
 rotate_left
 ·skip
  have ab:q=false:=by rw [HQ.out];exact decide_eq_false (fun e=>(by have h9:cl ≠ cl2:=(by simp at h2;omega);exact h9 (by rw [ep.out,ce.out,e])))
  subst ab
  go_wp2
  go_ret
  exact ⟨rfl,HW.out⟩
 cases h3:(o1 != o2)
 rotate_left
 ·skip
  have ab:q=false:=by rw [HQ.out];exact decide_eq_false (fun e=>(by have h9:o1 ≠ o2:=(by simpa using h3);exact h9 (by rw [dx.out,es.out,e])))
  subst ab
  go_wp2
  go_ret
  exact ⟨rfl,HW.out⟩
 cases h4:(v1 != v2)
 rotate_left
 ·skip
  have ab:q=false:=by rw [HQ.out];exact decide_eq_false (fun e=>(by have h9:v1 ≠ v2:=(by simpa using h4);exact h9 (by rw [eo.out,dz.out,e])))
  subst ab
  go_wp2
  go_ret
  exact ⟨rfl,HW.out⟩
 cases h5:(n1 != n2)
 rotate_left
 ·skip
  have ab:q=false:=by rw [HQ.out];exact decide_eq_false (fun e=>(by have h9:n1 ≠ n2:=(by simpa using h5);exact h9 (by rw [ei.out,eg.out,e])))
  subst ab
  go_wp2
  go_ret
  exact ⟨rfl,HW.out⟩
 go_wp2_with fail
 refine (aBW (fd.out.below HW.out) (ez.out.below HW.out)).mono ?_
 rintro e w2 ⟨rfl,hb⟩
 obtain ⟨c,hc⟩ : ∃ c,c=decide (x.term.to=y.term.to):=⟨_,rfl⟩
 rw [<-hc]
 have HC:=h! hc
 clear hc
 clear ae ak aj ag ah ai
 replace B1:=h! (B1.out.later hb)
 replace B2:=h! (B2.out.later hb)
 replace HW:=h! (HW.out.trans (hb.mono HW.out.size))
 clear hb
 obtain ⟨ae,ak,aj⟩:=B1.out
 obtain ⟨ag,ah,ai⟩:=B2.out
 cases c
 ·skip
  have ab:q=false:=by rw [HQ.out];exact decide_eq_false (fun e=>(by have h9:=HC.out;simp [e] at h9))
  subst ab
  go_wp2
  go_ret
  exact ⟨rfl,HW.out⟩
 have ds:Hid (x.term.op=y.term.op/\x.term.val=y.term.val/\x.term.to=y.term.to/\x.term.n=y.term.n):=h! ⟨by rw [<-dx.out, <-es.out];simpa using h3,by rw [<-eo.out, <-dz.out];simpa using h4,by simpa using HC.out.symm,by rw [<-ei.out, <-eg.out];simpa using h5⟩
 obtain rfl:pl=pl2:=by simp at h1;omega
 obtain rfl:cl=cl2:=by simp at h2;omega
 clear HC dx eo ei es dz eg fd ez
 go_wp2_with fail
 clear h1 h2 h3 h4 h5
 go_loopw [5] (fun i wr => ∃ k:Nat,k <= pl/\i = .int .i64 k/\Below w.heap.size w wr/\Box wr w.heap.size #[.slice ap pl cp,.slice ac cl cc,.int .i64 o1,.int .i64 v1,.slice ta tl tc,.int .i64 n1]/\Box wr (w.heap.size+1) #[.slice cz pl ct,.slice db cl de,.int .i64 o2,.int .i64 v2,.slice cy cL cx,.int .i64 n2] /\ ∀ j,j < k -> x.phis[j]? = y.phis[j]?) (fun i _=>pl - (intOf i).toNat)
 case atStart=>exact ⟨0,aJ _,rfl,HW.out,B1.out,B2.out,fun j h=>absurd h (eS _)⟩
 case round =>
  obtain ⟨k,hk,rfl,hW,dc,cB,hs⟩:=hrel
  clear ae ak aj ag ah ai
  replace HW:=h! hW
  replace B1:=h! dc
  replace B2:=h! cB
  have HS:=h! hs
  clear hW dc cB hs
  obtain ⟨ae,ak,aj⟩:=B1.out
  obtain ⟨ag,ah,ai⟩:=B2.out
  by_cases di:k < pl
  ·obtain ⟨rfl,fy⟩:=ff.out (by omega)
   obtain ⟨rfl,et⟩:=dn.out (by omega)
   obtain ⟨p,ci⟩ : ∃ p,x.phis[k]? = some p:=⟨_,aC (by have:=eb.out;omega)⟩
   obtain ⟨r,ck⟩ : ∃ r,y.phis[k]? = some r:=⟨_,aC (by have:=cj.out;omega)⟩
   obtain ⟨af,av,cf,cv,hP⟩:=fa.out k p ci
   obtain ⟨ba,cn,bj,cr,cG⟩:=dm.out k r ck
   have cF:=h! ci
   have dg:=h! ck
   have HP:=h! hP
   have cd:=h! cG
   clear ci ck hP cG
   go_upto_region 6 with (fail)
   refine Seven.wp_region_grow 13 (fun kz=>match kz with | 10=>some 12 | _=>none) (fun ν kz=>match kz with | 10=>.holds (Seven.MadeS (fun b=>.pointer (some ⟨b,0,none⟩)) #[.int .i64 0,.int .i64 0,.slice none 0 0,.slice none 0 0]) | 11=>.holds (Seven.MadeS (fun b=>.pointer (some ⟨b,0,none⟩)) #[.int .i64 0,.int .i64 0,.slice none 0 0,.slice none 0 0]) | 12=>.holds (Seven.FillS (ν 10).1 #[.int .i64 p.id,.int .i64 p.typ,.slice af p.src.length cf,.slice av p.vals.length cv]) | _=>.plain) (by kernel_rfl) (by kernel_rfl) ?_ ?_ ?_ (fun ν => ?_)
   ·(intro ν k;(try dsimp only);split <;> first | exact True.intro | (intro u φ w1 w2 D hu ho bw fs di hn;first | exact Seven.MadeS.off hu ho bw | (exact hu.off ho bw)))
   ·(intro ν ν' k h;first | rfl | ((try dsimp only);split <;> first | rfl | (rw [h 10 (by kernel_rfl)])))
   ·(intro j k h;(try dsimp only at h);split at h <;> first | (cases h;done) | (cases h;exact ⟨by kernel_rfl,by omega⟩))
   simp only [aO,aS,aP,aU]
   iterate 4 (refine Seven.Grow.val (v := ?_) rfl rfl (fun wg hbg hdg => ?_) ?_;rotate_left;(focus ((obtain ⟨ay,az,aw⟩:=B1.out.later hbg);(obtain ⟨br,bd,bq⟩:=B2.out.later hbg);clear hbg hdg;first | (go_simp;done) | (go_simp;with_reducible rfl)));simp only [Act.put,aA,aD,aE])
   refine Seven.Grow.val (v := ?_) rfl rfl (fun wg hbg hdg => ?_) ?_
   rotate_left
   focus ((obtain ⟨ay,az,aw⟩:=B1.out.later hbg);(obtain ⟨br,bd,bq⟩:=B2.out.later hbg);(obtain ⟨m0,m1,m2,m3, -, -, -, -⟩:=HP.out.below (HW.out.trans (hbg.mono HW.out.size)) fy);clear hbg hdg;first | (go_simp;done) | (go_simp;with_reducible rfl))
   simp only [Act.put,aA,aD,aE]
   iterate 4 (refine Seven.Grow.val (v := ?_) rfl rfl (fun wg hbg hdg => ?_) ?_;rotate_left;(focus ((obtain ⟨ay,az,aw⟩:=B1.out.later hbg);(obtain ⟨br,bd,bq⟩:=B2.out.later hbg);clear hbg hdg;first | (go_simp;done) | (go_simp;with_reducible rfl)));simp only [Act.put,aA,aD,aE])
   refine Seven.Grow.val (v := ?_) rfl rfl (fun wg hbg hdg => ?_) ?_
   rotate_left
   focus ((obtain ⟨ay,az,aw⟩:=B1.out.later hbg);(obtain ⟨br,bd,bq⟩:=B2.out.later hbg);(obtain ⟨m0,m1,m2,m3, -, -, -, -⟩:=cd.out.below (HW.out.trans (hbg.mono HW.out.size)) et);clear hbg hdg;first | (go_simp;done) | (go_simp;with_reducible rfl))
   simp only [Act.put,aA,aD,aE]
   iterate 2 (refine Seven.Grow.made (T := ?_) rfl rfl (fun wg hbg hdg => ?_) ?_;rotate_left;(focus ((obtain ⟨ay,az,aw⟩:=B1.out.later hbg);(obtain ⟨br,bd,bq⟩:=B2.out.later hbg);clear hbg hdg;first | (go_simp;done) | (go_simp;with_reducible rfl)));simp only [Act.put,Seven.Known.val,aA,aD,aE])
   refine Seven.Grow.turns rfl (by intro h;cases h) (fun wg hbg hdg => ?_) ?_
   focus ((have ex:Seven.MadeS (fun b=>.pointer (some ⟨b,0,none⟩)) #[.int .i64 0,.int .i64 0,.slice none 0 0,.slice none 0 0] (ν 10).1 (ν 10).2 wg:=hdg.fact 10 ⟨by kernel_rfl,.inr rfl⟩);(obtain ⟨bz,ek,dh,ca⟩:=ex);simp only [ek];refine ⟨_, ?_,Foot.one bz,⟨bz,rfl,fun k=>Iff.rfl,(qN ca (.int .i64 p.id) (.int .i64 p.typ) (.slice af p.src.length cf) (.slice av p.vals.length cv)).2⟩,(qO (qN ca (.int .i64 p.id) (.int .i64 p.typ) (.slice af p.src.length cf) (.slice av p.vals.length cv)).1).mono (fun q _ hq=>⟨10,rfl,(dh q).2 hq⟩),fun q hq=>⟨.inl ⟨10,rfl,(dh q).2 hq⟩,by cases hq;exact (qN ca (.int .i64 p.id) (.int .i64 p.typ) (.slice af p.src.length cf) (.slice av p.vals.length cv)).2.lt⟩⟩;obtain ⟨fm,fw,fo⟩:=ca;(obtain ⟨ay,az,aw⟩:=B1.out.later hbg);(obtain ⟨br,bd,bq⟩:=B2.out.later hbg);clear hbg hdg;first | (go_simp;done) | (go_simp;with_reducible rfl))
   simp only [Act.put,Seven.Known.val,aA,aD,aE]
   intro wg hb hf
   obtain ⟨ad,bk,am,bs⟩:=hf.fact 12 ⟨by omega,rfl⟩
   have bh:wr.heap.size <= ad:=hf.base 12 ad ⟨by omega,rfl⟩ ((am ad).2 rfl)
   have aq:ad ≠ w.heap.size:=fun e=>by have:=ae;omega
   have dd:w.heap.size ≠ ad:=fun e=>aq e.symm
   have bl:ad ≠ w.heap.size+1:=fun e=>by have:=ag;omega
   have dj:w.heap.size+1 ≠ ad:=fun e=>bl e.symm
   obtain ⟨aa,bg,an,bn⟩:=hf.fact 11 ⟨by omega,rfl⟩
   have bo:wr.heap.size <= aa:=hf.base 11 aa ⟨by omega,rfl⟩ ((an aa).2 rfl)
   have ar:aa ≠ w.heap.size:=fun e=>by have:=ae;omega
   have cw:w.heap.size ≠ aa:=fun e=>ar e.symm
   have bi:aa ≠ w.heap.size+1:=fun e=>by have:=ag;omega
   have cM:w.heap.size+1 ≠ aa:=fun e=>bi e.symm
   have dk:ad ≠ aa:=fun e=>hf.apart 12 11 ⟨by omega,rfl⟩ ⟨by omega,rfl⟩ (by omega) ad ((am ad).2 rfl) ((an ad).2 e)
   have dl:aa ≠ ad:=fun e=>hf.apart 11 12 ⟨by omega,rfl⟩ ⟨by omega,rfl⟩ (by omega) aa ((an aa).2 rfl) ((am aa).2 e)
   simp only [bk,bg]
   clear bk bg
   have fq:=bE HW.out.size bh
   clear bh
   have fv:=bE HW.out.size bo
   clear bo
   clear ae ak aj ag ah ai
   have fx:=hb
   replace B1:=h! (B1.out.later hb)
   replace B2:=h! (B2.out.later hb)
   replace HW:=h! (HW.out.trans (hb.mono HW.out.size))
   clear hb
   have BP:=h! bs
   clear bs
   have BR:=h! bn
   clear bn
   obtain ⟨ae,ak,aj⟩:=B1.out
   obtain ⟨ag,ah,ai⟩:=B2.out
   obtain ⟨bf,be,bb⟩:=BP.out
   obtain ⟨bt,ao,ax⟩:=BR.out
   clear hf
   go_upto_region 7 with (fail)
   clear ae ak aj ag ah ai bf be bb bt ao ax
   have bm:=((((Only.set wg (aa) 0 (.int .i64 r.id)).put 1 (.int .i64 r.typ)).put 2 (.slice ba r.src.length bj)).put 3 (.slice cn r.vals.length cr))
   replace B1:=h! (B1.out.only bm (by first | assumption | (simp;done) | omega))
   replace B2:=h! (B2.out.only bm (by first | assumption | (simp;done) | omega))
   replace BP:=h! (BP.out.only bm (by first | assumption | (simp;done) | omega))
   replace HW:=h! (bm.2.2 HW.out (by first | assumption | omega | (have:=HW.out.size;omega) | (simp;done) | (simp;omega)))
   replace BR:=h! (Box.to (A':=#[(.int .i64 r.id),(.int .i64 r.typ),(.slice ba r.src.length bj),(.slice cn r.vals.length cr)]) ((((BR.out.set 0 (.int .i64 r.id)).set 1 (.int .i64 r.typ)).set 2 (.slice ba r.src.length bj)).set 3 (.slice cn r.vals.length cr)) (by first | rfl | simp))
   clear bm
   generalize ((((wg.setCell ⟨aa,0,none⟩ (.int .i64 r.id)).setCell ⟨aa,1,none⟩ (.int .i64 r.typ)).setCell ⟨aa,2,none⟩ (.slice ba r.src.length bj)).setCell ⟨aa,3,none⟩ (.slice cn r.vals.length cr))=w4 at *
   obtain ⟨ae,ak,aj⟩:=B1.out
   obtain ⟨ag,ah,ai⟩:=B2.out
   obtain ⟨bf,be,bb⟩:=BP.out
   obtain ⟨bt,ao,ax⟩:=BR.out
   have al:Hid (Ints w4 (.slice af p.src.length cf) p.src/\Ints w4 (.slice av p.vals.length cv) p.vals):=h! ⟨HP.out.src.below HW.out,HP.out.vals.below HW.out⟩
   have bv:Hid (Ints w4 (.slice ba r.src.length bj) r.src/\Ints w4 (.slice cn r.vals.length cr) r.vals):=h! ⟨cd.out.src.below HW.out,cd.out.vals.below HW.out⟩
   have cb:Hid (p ≠ r -> q=false):=h! (fun h=>by rw [HQ.out];exact decide_eq_false (fun e=>h (by have h9:=cF.out;rw [e,dg.out] at h9;cases h9;rfl)))
   clear HP cd
   cases g1:(p.id != r.id)
   rotate_left
   ·skip
    have ab:q=false:=cb.out (fun e=>(by have h9:p.id ≠ r.id:=(by simpa using g1);exact h9 (by rw [e])))
    subst ab
    go_wp2
    go_ret
    exact ⟨rfl,HW.out⟩
   cases g2:(p.typ != r.typ)
   rotate_left
   ·skip
    have ab:q=false:=cb.out (fun e=>(by have h9:p.typ ≠ r.typ:=(by simpa using g2);exact h9 (by rw [e])))
    subst ab
    go_wp2
    go_ret
    exact ⟨rfl,HW.out⟩
   go_wp2_with fail
   refine (aBW al.out.1 bv.out.1).mono ?_
   rintro e w5 ⟨rfl,hb⟩
   obtain ⟨c,hc⟩ : ∃ c,c=decide (p.src=r.src):=⟨_,rfl⟩
   rw [<-hc]
   have HC:=h! hc
   have dw:Hid (Ints w5 (.slice av p.vals.length cv) p.vals/\Ints w5 (.slice cn r.vals.length cr) r.vals):=h! ⟨al.out.2.below hb,bv.out.2.below hb⟩
   clear hc al bv
   clear ae ak aj ag ah ai bf be bb bt ao ax
   replace B1:=h! (B1.out.later hb)
   replace B2:=h! (B2.out.later hb)
   replace BP:=h! (BP.out.later hb)
   replace BR:=h! (BR.out.later hb)
   replace HW:=h! (HW.out.trans (hb.mono HW.out.size))
   clear hb
   obtain ⟨ae,ak,aj⟩:=B1.out
   obtain ⟨ag,ah,ai⟩:=B2.out
   obtain ⟨bf,be,bb⟩:=BP.out
   obtain ⟨bt,ao,ax⟩:=BR.out
   cases c
   ·skip
    have ab:q=false:=cb.out (fun e=>(by have h9:=HC.out;simp [e] at h9))
    subst ab
    go_wp2
    go_ret
    exact ⟨rfl,HW.out⟩
   go_wp2_with fail
   refine (aBW dw.out.1 dw.out.2).mono ?_
   rintro e w6 ⟨rfl,hb⟩
   obtain ⟨c2,cq⟩ : ∃ c2,c2=decide (p.vals=r.vals):=⟨_,rfl⟩
   rw [<-cq]
   have fc:=h! cq
   clear cq dw
   clear ae ak aj ag ah ai bf be bb bt ao ax
   replace B1:=h! (B1.out.later hb)
   replace B2:=h! (B2.out.later hb)
   replace BP:=h! (BP.out.later hb)
   replace BR:=h! (BR.out.later hb)
   replace HW:=h! (HW.out.trans (hb.mono HW.out.size))
   clear hb
   obtain ⟨ae,ak,aj⟩:=B1.out
   obtain ⟨ag,ah,ai⟩:=B2.out
   obtain ⟨bf,be,bb⟩:=BP.out
   obtain ⟨bt,ao,ax⟩:=BR.out
   cases c2
   ·skip
    have ab:q=false:=cb.out (fun e=>(by have h9:=fc.out;simp [e] at h9))
    subst ab
    go_wp2
    go_ret
    exact ⟨rfl,HW.out⟩
   have dv:Hid (p=r):=h! (aFS (by simpa using g1) (by simpa using g2) (by simpa using HC.out.symm) (by simpa using fc.out.symm))
   go_wp2
   go_roundw
   case rel =>
    refine ⟨k+1,di,by go_num,HW.out,B1.out,B2.out,fun j hj => ?_⟩
    by_cases e:j=k
    ·subst e;rw [cF.out,dg.out,dv.out]
    exact HS.out j (by omega)
   simp [intOf];omega
  have fl:Hid (x.phis=y.phis):=h! (oV eb.out cj.out (fun j hj=>HS.out j (by omega)))
  clear HS fa dm ff dn
  go_wp2_with fail
  go_loopw [8] (fun i wr => ∃ k:Nat,k <= cl/\i = .int .i64 k/\Below w.heap.size w wr/\Box wr w.heap.size #[.slice ap pl cp,.slice ac cl cc,.int .i64 o1,.int .i64 v1,.slice ta tl tc,.int .i64 n1]/\Box wr (w.heap.size+1) #[.slice cz pl ct,.slice db cl de,.int .i64 o2,.int .i64 v2,.slice cy cL cx,.int .i64 n2] /\ ∀ j,j < k -> x.code[j]? = y.code[j]?) (fun i _=>cl - (intOf i).toNat)
  case atStart=>exact ⟨0,aJ _,rfl,HW.out,B1.out,B2.out,fun j h=>absurd h (eS _)⟩
  obtain ⟨k,hk,rfl,hW,dc,cB,hs⟩:=hrel
  clear ae ak aj ag ah ai
  replace HW:=h! hW
  replace B1:=h! dc
  replace B2:=h! cB
  have HS:=h! hs
  clear hW dc cB hs
  obtain ⟨ae,ak,aj⟩:=B1.out
  obtain ⟨ag,ah,ai⟩:=B2.out
  by_cases di:k < cl
  ·obtain ⟨rfl,fj⟩:=fi.out (by omega)
   obtain ⟨rfl,ea⟩:=ec.out (by omega)
   obtain ⟨p,ci⟩ : ∃ p,x.code[k]? = some p:=⟨_,aC (by have:=ep.out;omega)⟩
   obtain ⟨r,ck⟩ : ∃ r,y.code[k]? = some r:=⟨_,aC (by have:=ce.out;omega)⟩
   obtain ⟨af,cf,hP⟩:=fz.out k p ci
   obtain ⟨ba,bj,cG⟩:=ef.out k r ck
   have cF:=h! ci
   have dg:=h! ck
   have HP:=h! hP
   have cd:=h! cG
   clear ci ck hP cG
   go_upto_region 12 with (fail)
   refine Seven.wp_region_grow 13 (fun kz=>match kz with | 10=>some 12 | _=>none) (fun ν kz=>match kz with | 10=>.holds (Seven.MadeS (fun b=>.pointer (some ⟨b,0,none⟩)) #[.int .i64 0,.int .i64 0,.slice none 0 0,.int .i64 0]) | 11=>.holds (Seven.MadeS (fun b=>.pointer (some ⟨b,0,none⟩)) #[.int .i64 0,.int .i64 0,.slice none 0 0,.int .i64 0]) | 12=>.holds (Seven.FillS (ν 10).1 #[.int .i64 p.op,.int .i64 p.id,.slice af p.args.length cf,.int .i64 p.n]) | _=>.plain) (by kernel_rfl) (by kernel_rfl) ?_ ?_ ?_ (fun ν => ?_)
   ·(intro ν k;(try dsimp only);split <;> first | exact True.intro | (intro u φ w1 w2 D hu ho bw fs di hn;first | exact Seven.MadeS.off hu ho bw | (exact hu.off ho bw)))
   ·(intro ν ν' k h;first | rfl | ((try dsimp only);split <;> first | rfl | (rw [h 10 (by kernel_rfl)])))
   ·(intro j k h;(try dsimp only at h);split at h <;> first | (cases h;done) | (cases h;exact ⟨by kernel_rfl,by omega⟩))
   simp only [aO,aS,aP,aU]
   iterate 4 (refine Seven.Grow.val (v := ?_) rfl rfl (fun wg hbg hdg => ?_) ?_;rotate_left;(focus ((obtain ⟨ay,az,aw⟩:=B1.out.later hbg);(obtain ⟨br,bd,bq⟩:=B2.out.later hbg);clear hbg hdg;first | (go_simp;done) | (go_simp;with_reducible rfl)));simp only [Act.put,aA,aD,aE])
   refine Seven.Grow.val (v := ?_) rfl rfl (fun wg hbg hdg => ?_) ?_
   rotate_left
   focus ((obtain ⟨ay,az,aw⟩:=B1.out.later hbg);(obtain ⟨br,bd,bq⟩:=B2.out.later hbg);(obtain ⟨m0,m1,m2,m3, -, -, -, -⟩:=HP.out.below (HW.out.trans (hbg.mono HW.out.size)) fj);clear hbg hdg;first | (go_simp;done) | (go_simp;with_reducible rfl))
   simp only [Act.put,aA,aD,aE]
   iterate 4 (refine Seven.Grow.val (v := ?_) rfl rfl (fun wg hbg hdg => ?_) ?_;rotate_left;(focus ((obtain ⟨ay,az,aw⟩:=B1.out.later hbg);(obtain ⟨br,bd,bq⟩:=B2.out.later hbg);clear hbg hdg;first | (go_simp;done) | (go_simp;with_reducible rfl)));simp only [Act.put,aA,aD,aE])
   refine Seven.Grow.val (v := ?_) rfl rfl (fun wg hbg hdg => ?_) ?_
   rotate_left
   focus ((obtain ⟨ay,az,aw⟩:=B1.out.later hbg);(obtain ⟨br,bd,bq⟩:=B2.out.later hbg);(obtain ⟨m0,m1,m2,m3, -, -, -, -⟩:=cd.out.below (HW.out.trans (hbg.mono HW.out.size)) ea);clear hbg hdg;first | (go_simp;done) | (go_simp;with_reducible rfl))
   simp only [Act.put,aA,aD,aE]
   iterate 2 (refine Seven.Grow.made (T := ?_) rfl rfl (fun wg hbg hdg => ?_) ?_;rotate_left;(focus ((obtain ⟨ay,az,aw⟩:=B1.out.later hbg);(obtain ⟨br,bd,bq⟩:=B2.out.later hbg);clear hbg hdg;first | (go_simp;done) | (go_simp;with_reducible rfl)));simp only [Act.put,Seven.Known.val,aA,aD,aE])
   refine Seven.Grow.turns rfl (by intro h;cases h) (fun wg hbg hdg => ?_) ?_
   focus ((have ex:Seven.MadeS (fun b=>.pointer (some ⟨b,0,none⟩)) #[.int .i64 0,.int .i64 0,.slice none 0 0,.int .i64 0] (ν 10).1 (ν 10).2 wg:=hdg.fact 10 ⟨by kernel_rfl,.inr rfl⟩);(obtain ⟨bz,ek,dh,ca⟩:=ex);simp only [ek];refine ⟨_, ?_,Foot.one bz,⟨bz,rfl,fun k=>Iff.rfl,(qN ca (.int .i64 p.op) (.int .i64 p.id) (.slice af p.args.length cf) (.int .i64 p.n)).2⟩,(qO (qN ca (.int .i64 p.op) (.int .i64 p.id) (.slice af p.args.length cf) (.int .i64 p.n)).1).mono (fun q _ hq=>⟨10,rfl,(dh q).2 hq⟩),fun q hq=>⟨.inl ⟨10,rfl,(dh q).2 hq⟩,by cases hq;exact (qN ca (.int .i64 p.op) (.int .i64 p.id) (.slice af p.args.length cf) (.int .i64 p.n)).2.lt⟩⟩;obtain ⟨fm,fw,fo⟩:=ca;(obtain ⟨ay,az,aw⟩:=B1.out.later hbg);(obtain ⟨br,bd,bq⟩:=B2.out.later hbg);clear hbg hdg;first | (go_simp;done) | (go_simp;with_reducible rfl))
   simp only [Act.put,Seven.Known.val,aA,aD,aE]
   intro wg hb hf
   obtain ⟨ad,bk,am,bs⟩:=hf.fact 12 ⟨by omega,rfl⟩
   have bh:wr.heap.size <= ad:=hf.base 12 ad ⟨by omega,rfl⟩ ((am ad).2 rfl)
   have aq:ad ≠ w.heap.size:=fun e=>by have:=ae;omega
   have dd:w.heap.size ≠ ad:=fun e=>aq e.symm
   have bl:ad ≠ w.heap.size+1:=fun e=>by have:=ag;omega
   have dj:w.heap.size+1 ≠ ad:=fun e=>bl e.symm
   obtain ⟨aa,bg,an,bn⟩:=hf.fact 11 ⟨by omega,rfl⟩
   have bo:wr.heap.size <= aa:=hf.base 11 aa ⟨by omega,rfl⟩ ((an aa).2 rfl)
   have ar:aa ≠ w.heap.size:=fun e=>by have:=ae;omega
   have cw:w.heap.size ≠ aa:=fun e=>ar e.symm
   have bi:aa ≠ w.heap.size+1:=fun e=>by have:=ag;omega
   have cM:w.heap.size+1 ≠ aa:=fun e=>bi e.symm
   have dk:ad ≠ aa:=fun e=>hf.apart 12 11 ⟨by omega,rfl⟩ ⟨by omega,rfl⟩ (by omega) ad ((am ad).2 rfl) ((an ad).2 e)
   have dl:aa ≠ ad:=fun e=>hf.apart 11 12 ⟨by omega,rfl⟩ ⟨by omega,rfl⟩ (by omega) aa ((an aa).2 rfl) ((am aa).2 e)
   simp only [bk,bg]
   clear bk bg
   have fq:=bE HW.out.size bh
   clear bh
   have fv:=bE HW.out.size bo
   clear bo
   clear ae ak aj ag ah ai
   have fx:=hb
   replace B1:=h! (B1.out.later hb)
   replace B2:=h! (B2.out.later hb)
   replace HW:=h! (HW.out.trans (hb.mono HW.out.size))
   clear hb
   have BP:=h! bs
   clear bs
   have BR:=h! bn
   clear bn
   obtain ⟨ae,ak,aj⟩:=B1.out
   obtain ⟨ag,ah,ai⟩:=B2.out
   obtain ⟨bf,be,bb⟩:=BP.out
   obtain ⟨bt,ao,ax⟩:=BR.out
   clear hf
   go_upto_region 13 with (fail)
   clear ae ak aj ag ah ai bf be bb bt ao ax
   have bm:=((((Only.set wg (aa) 0 (.int .i64 r.op)).put 1 (.int .i64 r.id)).put 2 (.slice ba r.args.length bj)).put 3 (.int .i64 r.n))
   replace B1:=h! (B1.out.only bm (by first | assumption | (simp;done) | omega))
   replace B2:=h! (B2.out.only bm (by first | assumption | (simp;done) | omega))
   replace BP:=h! (BP.out.only bm (by first | assumption | (simp;done) | omega))
   replace HW:=h! (bm.2.2 HW.out (by first | assumption | omega | (have:=HW.out.size;omega) | (simp;done) | (simp;omega)))
   replace BR:=h! (Box.to (A':=#[(.int .i64 r.op),(.int .i64 r.id),(.slice ba r.args.length bj),(.int .i64 r.n)]) ((((BR.out.set 0 (.int .i64 r.op)).set 1 (.int .i64 r.id)).set 2 (.slice ba r.args.length bj)).set 3 (.int .i64 r.n)) (by first | rfl | simp))
   clear bm
   generalize ((((wg.setCell ⟨aa,0,none⟩ (.int .i64 r.op)).setCell ⟨aa,1,none⟩ (.int .i64 r.id)).setCell ⟨aa,2,none⟩ (.slice ba r.args.length bj)).setCell ⟨aa,3,none⟩ (.int .i64 r.n))=w4 at *
   obtain ⟨ae,ak,aj⟩:=B1.out
   obtain ⟨ag,ah,ai⟩:=B2.out
   obtain ⟨bf,be,bb⟩:=BP.out
   obtain ⟨bt,ao,ax⟩:=BR.out
   have al:Hid (Ints w4 (.slice af p.args.length cf) p.args/\Ints w4 (.slice ba r.args.length bj) r.args):=h! ⟨HP.out.args.below HW.out,cd.out.args.below HW.out⟩
   have cb:Hid (p ≠ r -> q=false):=h! (fun h=>by rw [HQ.out];exact decide_eq_false (fun e=>h (by have h9:=cF.out;rw [e,dg.out] at h9;cases h9;rfl)))
   clear HP cd
   cases g1:(p.op != r.op)
   rotate_left
   ·skip
    have ab:q=false:=cb.out (fun e=>(by have h9:p.op ≠ r.op:=(by simpa using g1);exact h9 (by rw [e])))
    subst ab
    go_wp2
    go_ret
    exact ⟨rfl,HW.out⟩
   cases g2:(p.id != r.id)
   rotate_left
   ·skip
    have ab:q=false:=cb.out (fun e=>(by have h9:p.id ≠ r.id:=(by simpa using g2);exact h9 (by rw [e])))
    subst ab
    go_wp2
    go_ret
    exact ⟨rfl,HW.out⟩
   cases g3:(p.n != r.n)
   rotate_left
   ·skip
    have ab:q=false:=cb.out (fun e=>(by have h9:p.n ≠ r.n:=(by simpa using g3);exact h9 (by rw [e])))
    subst ab
    go_wp2
    go_ret
    exact ⟨rfl,HW.out⟩
   go_wp2_with fail
   refine (aBW al.out.1 al.out.2).mono ?_
   rintro e w5 ⟨rfl,hb⟩
   obtain ⟨c,hc⟩ : ∃ c,c=decide (p.args=r.args):=⟨_,rfl⟩
   rw [<-hc]
   have HC:=h! hc
   clear hc al
   clear ae ak aj ag ah ai bf be bb bt ao ax
   replace B1:=h! (B1.out.later hb)
   replace B2:=h! (B2.out.later hb)
   replace BP:=h! (BP.out.later hb)
   replace BR:=h! (BR.out.later hb)
   replace HW:=h! (HW.out.trans (hb.mono HW.out.size))
   clear hb
   obtain ⟨ae,ak,aj⟩:=B1.out
   obtain ⟨ag,ah,ai⟩:=B2.out
   obtain ⟨bf,be,bb⟩:=BP.out
   obtain ⟨bt,ao,ax⟩:=BR.out
   cases c
   ·skip
    have ab:q=false:=cb.out (fun e=>(by have h9:=HC.out;simp [e] at h9))
    subst ab
    go_wp2
    go_ret
    exact ⟨rfl,HW.out⟩
   have dv:Hid (p=r):=h! (aCP (by simpa using g1) (by simpa using g2) (by simpa using HC.out.symm) (by simpa using g3))
   go_wp2
   go_roundw
   case rel =>
    refine ⟨k+1,di,by go_num,HW.out,B1.out,B2.out,fun j hj => ?_⟩
    by_cases e:j=k
    ·subst e;rw [cF.out,dg.out,dv.out]
    exact HS.out j (by omega)
   simp [intOf];omega
  have ft:Hid (x.code=y.code):=h! (oV ep.out ce.out (fun j hj=>HS.out j (by omega)))
  have fh:q=true:=by rw [HQ.out];exact decide_eq_true (aCO fl.out ft.out ds.out.1 ds.out.2.1 ds.out.2.2.1 ds.out.2.2.2)
  subst fh
  go_wp2
  go_ret
  exact ⟨rfl,HW.out⟩
end Go.Proofs.YtagabiidbbhhmaaGreat
