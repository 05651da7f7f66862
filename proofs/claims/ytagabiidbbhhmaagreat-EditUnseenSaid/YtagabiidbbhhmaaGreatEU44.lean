/- Part 44. -/
import Derived.Test.YtagabiidbbhhmaaGreatEU39
import Derived.Test.YtagabiidbbhhmaaGreatEU43
namespace Go.Proofs.YtagabiidbbhhmaaGreat
set_option linter.all false
open Go.RowKit
theorem aBV {x y:BlockD} (h1:x.phis=y.phis) (h2:x.code=y.code) (h3:x.term.op=y.term.op) (h4:x.term.val=y.term.val) (h5:x.term.to=y.term.to) (h6:x.term.n=y.term.n):x=y:=by
 obtain ⟨a,b,o,v,t,n⟩:=x
 obtain ⟨a',b',o',v',t',n'⟩:=y
 simp only at h1 h2 h3 h4 h5 h6
 subst h1 h2 h3 h4 h5 h6
 rfl
theorem aFB {x y:PhiD} (h1:x.id=y.id) (h2:x.typ=y.typ) (h3:x.src=y.src) (h4:x.vals=y.vals):x=y:=by
 obtain ⟨a,b,c,d⟩:=x
 obtain ⟨a',b',c',d'⟩:=y
 simp only at h1 h2 h3 h4
 subst h1 h2 h3 h4
 rfl
theorem aBW {x y:InstrD} (h1:x.op=y.op) (h2:x.id=y.id) (h3:x.args=y.args) (h4:x.n=y.n):x=y:=by
 obtain ⟨a,b,c,d⟩:=x
 obtain ⟨a',b',c',d'⟩:=y
 simp only at h1 h2 h3 h4
 subst h1 h2 h3 h4
 rfl
theorem oG {α : Type} {xs ys:List α} {n:Nat} (h1:n=xs.length) (h2:n=ys.length) (h:∀ j,j < n -> xs[j]? = ys[j]?):xs=ys:=by
 apply bG
 intro j
 by_cases hj:j < n
 ·exact h j hj
 rw [aT (by omega),aT (by omega)]
set_option maxHeartbeats 25600000 in
set_option maxRecDepth 100000 in
theorem rA {w:World} {v u:Value} {x y:BlockD} (hv:BlockV w v x) (hu:BlockV w u y) :
  Calls Tryz.prog 45 #[v,u] w fun e w'=>e = .returned (.bool (decide (x=y)))/\Below w.heap.size w w':=by
 obtain ⟨⟨pv,uv,tv,rfl,hp,hc,ht⟩, -, -, -⟩:=hv
 obtain ⟨⟨pv2,uv2,tv2,rfl,ez,cr,dt⟩, -, -, -⟩:=hu
 obtain ⟨ap,cp,bp,op_,rfl,ft,hpm, -,ei,fd⟩:=fH hp
 obtain ⟨ac,cc,bc,oc,rfl,fi,hcm, -,et,fa⟩:=fS hc
 obtain ⟨ta,tc,rfl⟩:=ht.form
 obtain ⟨cw,dc,bp2,op2,rfl,en,hpm2, -,ci,cG⟩:=fH ez
 obtain ⟨cs,de,bc2,oc2,rfl,eg,hcm2, -,ch,dd⟩:=fS cr
 obtain ⟨di,dm,rfl⟩:=dt.form
 obtain ⟨pl,dq⟩ : ∃ n,n=x.phis.length:=⟨_,rfl⟩
 obtain ⟨cl,dp⟩ : ∃ n,n=x.code.length:=⟨_,rfl⟩
 obtain ⟨tl,ee⟩ : ∃ n,n=x.term.to.length:=⟨_,rfl⟩
 obtain ⟨pl2,bx⟩ : ∃ n,n=y.phis.length:=⟨_,rfl⟩
 obtain ⟨cl2,ca⟩ : ∃ n,n=y.code.length:=⟨_,rfl⟩
 obtain ⟨dg,cm⟩ : ∃ n,n=y.term.to.length:=⟨_,rfl⟩
 obtain ⟨o1,dz⟩ : ∃ n,n=x.term.op:=⟨_,rfl⟩
 obtain ⟨v1,ej⟩ : ∃ n,n=x.term.val:=⟨_,rfl⟩
 obtain ⟨n1,ea⟩ : ∃ n,n=x.term.n:=⟨_,rfl⟩
 obtain ⟨o2,eh⟩ : ∃ n,n=y.term.op:=⟨_,rfl⟩
 obtain ⟨v2,dy⟩ : ∃ n,n=y.term.val:=⟨_,rfl⟩
 obtain ⟨n2,dx⟩ : ∃ n,n=y.term.n:=⟨_,rfl⟩
 obtain ⟨q,hq⟩ : ∃ q,q=decide (x=y):=⟨_,rfl⟩
 rw [<-hq, <-dq, <-dp, <-ee, <-bx, <-ca, <-cm, <-dz, <-ej, <-ea, <-eh, <-dy, <-dx]
 rw [<-dq] at ft ei
 rw [<-dp] at fi et
 rw [<-bx] at en ci
 rw [<-ca] at eg ch
 rw [<-ee] at ht
 rw [<-cm] at dt
 have HQ:=h! hq
 have ek:=h! dq
 have ex:=h! dp
 have ce:=h! bx
 have cg:=h! ca
 have ec:=h! dz
 have dv:=h! ej
 have eo:=h! ea
 have eb:=h! eh
 have ey:=h! dy
 have em:=h! dx
 have fe:=h! ei
 have fc:=h! fd
 have fh:=h! et
 have fx:=h! fa
 have cx:=h! ci
 have df:=h! cG
 have ed:=h! ch
 have ef:=h! dd
 have fb:=h! ht
 have fg:=h! dt
 clear hp hc ht ez cr dt hq dq dp ee bx ca cm dz ej ea eh dy dx ei fd et fa ci cG ch dd
 go_enter Tryz.func45,Tryz.ntmps45
 go_upto_region 1 with (fail)
 have cq:=(Below.refl w.heap.size w).alloc (aC _) (.cells #[.slice ap pl cp,.slice ac cl cc,.int .i64 o1,.int .i64 v1,.slice ta tl tc,.int .i64 n1] 63)
 have HW:=h! cq
 clear cq
 have B1:=h! (Box.new w #[.slice ap pl cp,.slice ac cl cc,.int .i64 o1,.int .i64 v1,.slice ta tl tc,.int .i64 n1] 63)
 have cL:(w.alloc (.cells #[.slice ap pl cp,.slice ac cl cc,.int .i64 o1,.int .i64 v1,.slice ta tl tc,.int .i64 n1] 63)).heap.size=w.heap.size+1:=World.size_alloc _ _
 generalize w.alloc (.cells #[.slice ap pl cp,.slice ac cl cc,.int .i64 o1,.int .i64 v1,.slice ta tl tc,.int .i64 n1] 63)=ds at *
 have cq:=(Below.refl ds.heap.size ds).alloc (aC _) (.cells #[.slice cw pl2 dc,.slice cs cl2 de,.int .i64 o2,.int .i64 v2,.slice di dg dm,.int .i64 n2] 63)
 replace B1:=h! (B1.out.later cq)
 replace HW:=h! (HW.out.trans (cq.mono HW.out.size))
 clear cq
 have B2:=h! (Box.new ds #[.slice cw pl2 dc,.slice cs cl2 de,.int .i64 o2,.int .i64 v2,.slice di dg dm,.int .i64 n2] 63)
 rw [cL] at B2
 clear cL
 generalize ds.alloc (.cells #[.slice cw pl2 dc,.slice cs cl2 de,.int .i64 o2,.int .i64 v2,.slice di dg dm,.int .i64 n2] 63)=wv at *
 obtain ⟨ae,ah,ai⟩:=B1.out
 obtain ⟨ag,aj,ak⟩:=B2.out
 cases h1:((pl:Int) != (pl2:Int))
 rotate_left
 ·skip
  have ab:q=false:=by rw [HQ.out];exact decide_eq_false (fun e=>(by have h9:pl ≠ pl2:=(by simp at h1;omega);exact h9 (by rw [ek.out,ce.out,e])))
  subst ab
  go_wp2
  go_ret
  exact ⟨rfl,HW.out⟩
 cases h2:((cl:Int) != (cl2:Int))
 rotate_left
 ·skip
  have ab:q=false:=by rw [HQ.out];exact decide_eq_false (fun e=>(by have h9:cl ≠ cl2:=(by simp at h2;omega);exact h9 (by rw [ex.out,cg.out,e])))
  subst ab
  go_wp2
  go_ret
  exact ⟨rfl,HW.out⟩
 cases h3:(o1 != o2)
 rotate_left
 ·skip
  have ab:q=false:=by rw [HQ.out];exact decide_eq_false (fun e=>(by have h9:o1 ≠ o2:=(by simpa using h3);exact h9 (by rw [ec.out,eb.out,e])))
  subst ab
  go_wp2
  go_ret
  exact ⟨rfl,HW.out⟩
 cases h4:(v1 != v2)
 rotate_left
 ·skip
  have ab:q=false:=by rw [HQ.out];exact decide_eq_false (fun e=>(by have h9:v1 ≠ v2:=(by simpa using h4);exact h9 (by rw [dv.out,ey.out,e])))
  subst ab
  go_wp2
  go_ret
  exact ⟨rfl,HW.out⟩
 cases h5:(n1 != n2)
 rotate_left
 ·skip
  have ab:q=false:=by rw [HQ.out];exact decide_eq_false (fun e=>(by have h9:n1 ≠ n2:=(by simpa using h5);exact h9 (by rw [eo.out,em.out,e])))
  subst ab
  go_wp2
  go_ret
  exact ⟨rfl,HW.out⟩
 go_wp2_with fail
 refine (yU (fb.out.below HW.out) (fg.out.below HW.out)).mono ?_
 rintro e w2 ⟨rfl,hb⟩
 obtain ⟨c,hc⟩ : ∃ c,c=decide (x.term.to=y.term.to):=⟨_,rfl⟩
 rw [<-hc]
 have HC:=h! hc
 clear hc
 clear ae ah ai ag aj ak
 replace B1:=h! (B1.out.later hb)
 replace B2:=h! (B2.out.later hb)
 replace HW:=h! (HW.out.trans (hb.mono HW.out.size))
 clear hb
 obtain ⟨ae,ah,ai⟩:=B1.out
 obtain ⟨ag,aj,ak⟩:=B2.out
 cases c
 ·skip
  have ab:q=false:=by rw [HQ.out];exact decide_eq_false (fun e=>(by have h9:=HC.out;simp [e] at h9))
  subst ab
  go_wp2
  go_ret
  exact ⟨rfl,HW.out⟩
 have dr:Hid (x.term.op=y.term.op/\x.term.val=y.term.val/\x.term.to=y.term.to/\x.term.n=y.term.n):=h! ⟨by rw [<-ec.out, <-eb.out];simpa using h3,by rw [<-dv.out, <-ey.out];simpa using h4,by simpa using HC.out.symm,by rw [<-eo.out, <-em.out];simpa using h5⟩
 obtain rfl:pl=pl2:=by simp at h1;omega
 obtain rfl:cl=cl2:=by simp at h2;omega
 clear HC ec dv eo eb ey em fb fg
 go_wp2_with fail
 clear h1 h2 h3 h4 h5
 go_loopw [5] (fun i wr => ∃ k:Nat,k <= pl/\i = .int .i64 k/\Below w.heap.size w wr/\Box wr w.heap.size #[.slice ap pl cp,.slice ac cl cc,.int .i64 o1,.int .i64 v1,.slice ta tl tc,.int .i64 n1]/\Box wr (w.heap.size+1) #[.slice cw pl dc,.slice cs cl de,.int .i64 o2,.int .i64 v2,.slice di dg dm,.int .i64 n2] /\ ∀ j,j < k -> x.phis[j]? = y.phis[j]?) (fun i _=>pl - (intOf i).toNat)
 case atStart=>exact ⟨0,aH _,rfl,HW.out,B1.out,B2.out,fun j h=>absurd h (eC _)⟩
 case round =>
  obtain ⟨k,hk,rfl,hW,ct,dn,hs⟩:=hrel
  clear ae ah ai ag aj ak
  replace HW:=h! hW
  replace B1:=h! ct
  replace B2:=h! dn
  have HS:=h! hs
  clear hW ct dn hs
  obtain ⟨ae,ah,ai⟩:=B1.out
  obtain ⟨ag,aj,ak⟩:=B2.out
  by_cases da:k < pl
  ·obtain ⟨rfl,fj⟩:=fe.out (by omega)
   obtain ⟨rfl,ep⟩:=cx.out (by omega)
   obtain ⟨p,ck⟩ : ∃ p,x.phis[k]? = some p:=⟨_,aB (by have:=ek.out;omega)⟩
   obtain ⟨r,cj⟩ : ∃ r,y.phis[k]? = some r:=⟨_,aB (by have:=ce.out;omega)⟩
   obtain ⟨af,av,cf,cv,hP⟩:=fc.out k p ck
   obtain ⟨bo,cn,bm,co,dh⟩:=df.out k r cj
   have cM:=h! ck
   have db:=h! cj
   have HP:=h! hP
   have cd:=h! dh
   clear ck cj hP dh
   go_upto_region 6 with (fail)
   refine Seven.wp_region_grow 13 (fun kz=>match kz with | 10=>some 12 | _=>none) (fun ν kz=>match kz with | 10=>.holds (Seven.MadeS (fun b=>.pointer (some ⟨b,0,none⟩)) #[.int .i64 0,.int .i64 0,.slice none 0 0,.slice none 0 0]) | 11=>.holds (Seven.MadeS (fun b=>.pointer (some ⟨b,0,none⟩)) #[.int .i64 0,.int .i64 0,.slice none 0 0,.slice none 0 0]) | 12=>.holds (Seven.FillS (ν 10).1 #[.int .i64 p.id,.int .i64 p.typ,.slice af p.src.length cf,.slice av p.vals.length cv]) | _=>.plain) (by kernel_rfl) (by kernel_rfl) ?_ ?_ ?_ (fun ν => ?_)
   ·(intro ν k;(try dsimp only);split <;> first | exact True.intro | (intro u φ w1 w2 D hu ho bh fp da hn;first | exact Seven.MadeS.off hu ho bh | (exact hu.off ho bh)))
   ·(intro ν ν' k h;first | rfl | ((try dsimp only);split <;> first | rfl | (rw [h 10 (by kernel_rfl)])))
   ·(intro j k h;(try dsimp only at h);split at h <;> first | (cases h;done) | (cases h;exact ⟨by kernel_rfl,by omega⟩))
   simp only [aP,aU,aS,aX]
   iterate 4 (refine Seven.Grow.val (v := ?_) rfl rfl (fun wg hbg hdg => ?_) ?_;rotate_left;(focus ((obtain ⟨ba,bq,bb⟩:=B1.out.later hbg);(obtain ⟨bt,ar,ay⟩:=B2.out.later hbg);clear hbg hdg;first | (go_simp;done) | (go_simp;with_reducible rfl)));simp only [Act.put,aA,aE,aF])
   refine Seven.Grow.val (v := ?_) rfl rfl (fun wg hbg hdg => ?_) ?_
   rotate_left
   focus ((obtain ⟨ba,bq,bb⟩:=B1.out.later hbg);(obtain ⟨bt,ar,ay⟩:=B2.out.later hbg);(obtain ⟨m0,m1,m2,m3, -, -, -, -⟩:=HP.out.below (HW.out.trans (hbg.mono HW.out.size)) fj);clear hbg hdg;first | (go_simp;done) | (go_simp;with_reducible rfl))
   simp only [Act.put,aA,aE,aF]
   iterate 4 (refine Seven.Grow.val (v := ?_) rfl rfl (fun wg hbg hdg => ?_) ?_;rotate_left;(focus ((obtain ⟨ba,bq,bb⟩:=B1.out.later hbg);(obtain ⟨bt,ar,ay⟩:=B2.out.later hbg);clear hbg hdg;first | (go_simp;done) | (go_simp;with_reducible rfl)));simp only [Act.put,aA,aE,aF])
   refine Seven.Grow.val (v := ?_) rfl rfl (fun wg hbg hdg => ?_) ?_
   rotate_left
   focus ((obtain ⟨ba,bq,bb⟩:=B1.out.later hbg);(obtain ⟨bt,ar,ay⟩:=B2.out.later hbg);(obtain ⟨m0,m1,m2,m3, -, -, -, -⟩:=cd.out.below (HW.out.trans (hbg.mono HW.out.size)) ep);clear hbg hdg;first | (go_simp;done) | (go_simp;with_reducible rfl))
   simp only [Act.put,aA,aE,aF]
   iterate 2 (refine Seven.Grow.made (T := ?_) rfl rfl (fun wg hbg hdg => ?_) ?_;rotate_left;(focus ((obtain ⟨ba,bq,bb⟩:=B1.out.later hbg);(obtain ⟨bt,ar,ay⟩:=B2.out.later hbg);clear hbg hdg;first | (go_simp;done) | (go_simp;with_reducible rfl)));simp only [Act.put,Seven.Known.val,aA,aE,aF])
   refine Seven.Grow.turns rfl (by intro h;cases h) (fun wg hbg hdg => ?_) ?_
   focus ((have ew:Seven.MadeS (fun b=>.pointer (some ⟨b,0,none⟩)) #[.int .i64 0,.int .i64 0,.slice none 0 0,.slice none 0 0] (ν 10).1 (ν 10).2 wg:=hdg.fact 10 ⟨by kernel_rfl,.inr rfl⟩);(obtain ⟨bz,ev,cF,cb⟩:=ew);simp only [ev];refine ⟨_, ?_,Foot.one bz,⟨bz,rfl,fun k=>Iff.rfl,(qG cb (.int .i64 p.id) (.int .i64 p.typ) (.slice af p.src.length cf) (.slice av p.vals.length cv)).2⟩,(oB (qG cb (.int .i64 p.id) (.int .i64 p.typ) (.slice af p.src.length cf) (.slice av p.vals.length cv)).1).mono (fun q _ hq=>⟨10,rfl,(cF q).2 hq⟩),fun q hq=>⟨.inl ⟨10,rfl,(cF q).2 hq⟩,by cases hq;exact (qG cb (.int .i64 p.id) (.int .i64 p.typ) (.slice af p.src.length cf) (.slice av p.vals.length cv)).2.lt⟩⟩;obtain ⟨fy,fv,fk⟩:=cb;(obtain ⟨ba,bq,bb⟩:=B1.out.later hbg);(obtain ⟨bt,ar,ay⟩:=B2.out.later hbg);clear hbg hdg;first | (go_simp;done) | (go_simp;with_reducible rfl))
   simp only [Act.put,Seven.Known.val,aA,aE,aF]
   intro wg hb hf
   obtain ⟨ad,ao,an,bf⟩:=hf.fact 12 ⟨by omega,rfl⟩
   have bs:wr.heap.size <= ad:=hf.base 12 ad ⟨by omega,rfl⟩ ((an ad).2 rfl)
   have bl:ad ≠ w.heap.size:=fun e=>by have:=ae;omega
   have cB:w.heap.size ≠ ad:=fun e=>bl e.symm
   have bg:ad ≠ w.heap.size+1:=fun e=>by have:=ag;omega
   have cy:w.heap.size+1 ≠ ad:=fun e=>bg e.symm
   obtain ⟨aa,bd,am,br⟩:=hf.fact 11 ⟨by omega,rfl⟩
   have bv:wr.heap.size <= aa:=hf.base 11 aa ⟨by omega,rfl⟩ ((am aa).2 rfl)
   have aw:aa ≠ w.heap.size:=fun e=>by have:=ae;omega
   have dk:w.heap.size ≠ aa:=fun e=>aw e.symm
   have aq:aa ≠ w.heap.size+1:=fun e=>by have:=ag;omega
   have dl:w.heap.size+1 ≠ aa:=fun e=>aq e.symm
   have dj:ad ≠ aa:=fun e=>hf.apart 12 11 ⟨by omega,rfl⟩ ⟨by omega,rfl⟩ (by omega) ad ((an ad).2 rfl) ((am ad).2 e)
   have cz:aa ≠ ad:=fun e=>hf.apart 11 12 ⟨by omega,rfl⟩ ⟨by omega,rfl⟩ (by omega) aa ((am aa).2 rfl) ((an aa).2 e)
   simp only [ao,bd]
   clear ao bd
   have fl:=bA HW.out.size bs
   clear bs
   have fm:=bA HW.out.size bv
   clear bv
   clear ae ah ai ag aj ak
   have fo:=hb
   replace B1:=h! (B1.out.later hb)
   replace B2:=h! (B2.out.later hb)
   replace HW:=h! (HW.out.trans (hb.mono HW.out.size))
   clear hb
   have BP:=h! bf
   clear bf
   have BR:=h! br
   clear br
   obtain ⟨ae,ah,ai⟩:=B1.out
   obtain ⟨ag,aj,ak⟩:=B2.out
   obtain ⟨be,bi,bj⟩:=BP.out
   obtain ⟨az,ax,bk⟩:=BR.out
   clear hf
   go_upto_region 7 with (fail)
   clear ae ah ai ag aj ak be bi bj az ax bk
   have bw:=((((Only.set wg (aa) 0 (.int .i64 r.id)).put 1 (.int .i64 r.typ)).put 2 (.slice bo r.src.length bm)).put 3 (.slice cn r.vals.length co))
   replace B1:=h! (B1.out.only bw (by first | assumption | (simp;done) | omega))
   replace B2:=h! (B2.out.only bw (by first | assumption | (simp;done) | omega))
   replace BP:=h! (BP.out.only bw (by first | assumption | (simp;done) | omega))
   replace HW:=h! (bw.2.2 HW.out (by first | assumption | omega | (have:=HW.out.size;omega) | (simp;done) | (simp;omega)))
   replace BR:=h! (Box.to (A':=#[(.int .i64 r.id),(.int .i64 r.typ),(.slice bo r.src.length bm),(.slice cn r.vals.length co)]) ((((BR.out.set 0 (.int .i64 r.id)).set 1 (.int .i64 r.typ)).set 2 (.slice bo r.src.length bm)).set 3 (.slice cn r.vals.length co)) (by first | rfl | simp))
   clear bw
   generalize ((((wg.setCell ⟨aa,0,none⟩ (.int .i64 r.id)).setCell ⟨aa,1,none⟩ (.int .i64 r.typ)).setCell ⟨aa,2,none⟩ (.slice bo r.src.length bm)).setCell ⟨aa,3,none⟩ (.slice cn r.vals.length co))=w4 at *
   obtain ⟨ae,ah,ai⟩:=B1.out
   obtain ⟨ag,aj,ak⟩:=B2.out
   obtain ⟨be,bi,bj⟩:=BP.out
   obtain ⟨az,ax,bk⟩:=BR.out
   have al:Hid (Ints w4 (.slice af p.src.length cf) p.src/\Ints w4 (.slice av p.vals.length cv) p.vals):=h! ⟨HP.out.src.below HW.out,HP.out.vals.below HW.out⟩
   have bn:Hid (Ints w4 (.slice bo r.src.length bm) r.src/\Ints w4 (.slice cn r.vals.length co) r.vals):=h! ⟨cd.out.src.below HW.out,cd.out.vals.below HW.out⟩
   have bO:Hid (p ≠ r -> q=false):=h! (fun h=>by rw [HQ.out];exact decide_eq_false (fun e=>h (by have h9:=cM.out;rw [e,db.out] at h9;cases h9;rfl)))
   clear HP cd
   cases g1:(p.id != r.id)
   rotate_left
   ·skip
    have ab:q=false:=bO.out (fun e=>(by have h9:p.id ≠ r.id:=(by simpa using g1);exact h9 (by rw [e])))
    subst ab
    go_wp2
    go_ret
    exact ⟨rfl,HW.out⟩
   cases g2:(p.typ != r.typ)
   rotate_left
   ·skip
    have ab:q=false:=bO.out (fun e=>(by have h9:p.typ ≠ r.typ:=(by simpa using g2);exact h9 (by rw [e])))
    subst ab
    go_wp2
    go_ret
    exact ⟨rfl,HW.out⟩
   go_wp2_with fail
   refine (yU al.out.1 bn.out.1).mono ?_
   rintro e w5 ⟨rfl,hb⟩
   obtain ⟨c,hc⟩ : ∃ c,c=decide (p.src=r.src):=⟨_,rfl⟩
   rw [<-hc]
   have HC:=h! hc
   have er:Hid (Ints w5 (.slice av p.vals.length cv) p.vals/\Ints w5 (.slice cn r.vals.length co) r.vals):=h! ⟨al.out.2.below hb,bn.out.2.below hb⟩
   clear hc al bn
   clear ae ah ai ag aj ak be bi bj az ax bk
   replace B1:=h! (B1.out.later hb)
   replace B2:=h! (B2.out.later hb)
   replace BP:=h! (BP.out.later hb)
   replace BR:=h! (BR.out.later hb)
   replace HW:=h! (HW.out.trans (hb.mono HW.out.size))
   clear hb
   obtain ⟨ae,ah,ai⟩:=B1.out
   obtain ⟨ag,aj,ak⟩:=B2.out
   obtain ⟨be,bi,bj⟩:=BP.out
   obtain ⟨az,ax,bk⟩:=BR.out
   cases c
   ·skip
    have ab:q=false:=bO.out (fun e=>(by have h9:=HC.out;simp [e] at h9))
    subst ab
    go_wp2
    go_ret
    exact ⟨rfl,HW.out⟩
   go_wp2_with fail
   refine (yU er.out.1 er.out.2).mono ?_
   rintro e w6 ⟨rfl,hb⟩
   obtain ⟨c2,cr⟩ : ∃ c2,c2=decide (p.vals=r.vals):=⟨_,rfl⟩
   rw [<-cr]
   have ff:=h! cr
   clear cr er
   clear ae ah ai ag aj ak be bi bj az ax bk
   replace B1:=h! (B1.out.later hb)
   replace B2:=h! (B2.out.later hb)
   replace BP:=h! (BP.out.later hb)
   replace BR:=h! (BR.out.later hb)
   replace HW:=h! (HW.out.trans (hb.mono HW.out.size))
   clear hb
   obtain ⟨ae,ah,ai⟩:=B1.out
   obtain ⟨ag,aj,ak⟩:=B2.out
   obtain ⟨be,bi,bj⟩:=BP.out
   obtain ⟨az,ax,bk⟩:=BR.out
   cases c2
   ·skip
    have ab:q=false:=bO.out (fun e=>(by have h9:=ff.out;simp [e] at h9))
    subst ab
    go_wp2
    go_ret
    exact ⟨rfl,HW.out⟩
   have es:Hid (p=r):=h! (aFB (by simpa using g1) (by simpa using g2) (by simpa using HC.out.symm) (by simpa using ff.out.symm))
   go_wp2
   go_roundw
   case rel =>
    refine ⟨k+1,da,by go_num,HW.out,B1.out,B2.out,fun j hj => ?_⟩
    by_cases e:j=k
    ·subst e;rw [cM.out,db.out,es.out]
    exact HS.out j (by omega)
   simp [intOf];omega
  have fz:Hid (x.phis=y.phis):=h! (oG ek.out ce.out (fun j hj=>HS.out j (by omega)))
  clear HS fc df fe cx
  go_wp2_with fail
  go_loopw [8] (fun i wr => ∃ k:Nat,k <= cl/\i = .int .i64 k/\Below w.heap.size w wr/\Box wr w.heap.size #[.slice ap pl cp,.slice ac cl cc,.int .i64 o1,.int .i64 v1,.slice ta tl tc,.int .i64 n1]/\Box wr (w.heap.size+1) #[.slice cw pl dc,.slice cs cl de,.int .i64 o2,.int .i64 v2,.slice di dg dm,.int .i64 n2] /\ ∀ j,j < k -> x.code[j]? = y.code[j]?) (fun i _=>cl - (intOf i).toNat)
  case atStart=>exact ⟨0,aH _,rfl,HW.out,B1.out,B2.out,fun j h=>absurd h (eC _)⟩
  obtain ⟨k,hk,rfl,hW,ct,dn,hs⟩:=hrel
  clear ae ah ai ag aj ak
  replace HW:=h! hW
  replace B1:=h! ct
  replace B2:=h! dn
  have HS:=h! hs
  clear hW ct dn hs
  obtain ⟨ae,ah,ai⟩:=B1.out
  obtain ⟨ag,aj,ak⟩:=B2.out
  by_cases da:k < cl
  ·obtain ⟨rfl,fs⟩:=fh.out (by omega)
   obtain ⟨rfl,dw⟩:=ed.out (by omega)
   obtain ⟨p,ck⟩ : ∃ p,x.code[k]? = some p:=⟨_,aB (by have:=ex.out;omega)⟩
   obtain ⟨r,cj⟩ : ∃ r,y.code[k]? = some r:=⟨_,aB (by have:=cg.out;omega)⟩
   obtain ⟨af,cf,hP⟩:=fx.out k p ck
   obtain ⟨bo,bm,dh⟩:=ef.out k r cj
   have cM:=h! ck
   have db:=h! cj
   have HP:=h! hP
   have cd:=h! dh
   clear ck cj hP dh
   go_upto_region 12 with (fail)
   refine Seven.wp_region_grow 13 (fun kz=>match kz with | 10=>some 12 | _=>none) (fun ν kz=>match kz with | 10=>.holds (Seven.MadeS (fun b=>.pointer (some ⟨b,0,none⟩)) #[.int .i64 0,.int .i64 0,.slice none 0 0,.int .i64 0]) | 11=>.holds (Seven.MadeS (fun b=>.pointer (some ⟨b,0,none⟩)) #[.int .i64 0,.int .i64 0,.slice none 0 0,.int .i64 0]) | 12=>.holds (Seven.FillS (ν 10).1 #[.int .i64 p.op,.int .i64 p.id,.slice af p.args.length cf,.int .i64 p.n]) | _=>.plain) (by kernel_rfl) (by kernel_rfl) ?_ ?_ ?_ (fun ν => ?_)
   ·(intro ν k;(try dsimp only);split <;> first | exact True.intro | (intro u φ w1 w2 D hu ho bh fp da hn;first | exact Seven.MadeS.off hu ho bh | (exact hu.off ho bh)))
   ·(intro ν ν' k h;first | rfl | ((try dsimp only);split <;> first | rfl | (rw [h 10 (by kernel_rfl)])))
   ·(intro j k h;(try dsimp only at h);split at h <;> first | (cases h;done) | (cases h;exact ⟨by kernel_rfl,by omega⟩))
   simp only [aP,aU,aS,aX]
   iterate 4 (refine Seven.Grow.val (v := ?_) rfl rfl (fun wg hbg hdg => ?_) ?_;rotate_left;(focus ((obtain ⟨ba,bq,bb⟩:=B1.out.later hbg);(obtain ⟨bt,ar,ay⟩:=B2.out.later hbg);clear hbg hdg;first | (go_simp;done) | (go_simp;with_reducible rfl)));simp only [Act.put,aA,aE,aF])
   refine Seven.Grow.val (v := ?_) rfl rfl (fun wg hbg hdg => ?_) ?_
   rotate_left
   focus ((obtain ⟨ba,bq,bb⟩:=B1.out.later hbg);(obtain ⟨bt,ar,ay⟩:=B2.out.later hbg);(obtain ⟨m0,m1,m2,m3, -, -, -, -⟩:=HP.out.below (HW.out.trans (hbg.mono HW.out.size)) fs);clear hbg hdg;first | (go_simp;done) | (go_simp;with_reducible rfl))
   simp only [Act.put,aA,aE,aF]
   iterate 4 (refine Seven.Grow.val (v := ?_) rfl rfl (fun wg hbg hdg => ?_) ?_;rotate_left;(focus ((obtain ⟨ba,bq,bb⟩:=B1.out.later hbg);(obtain ⟨bt,ar,ay⟩:=B2.out.later hbg);clear hbg hdg;first | (go_simp;done) | (go_simp;with_reducible rfl)));simp only [Act.put,aA,aE,aF])
   refine Seven.Grow.val (v := ?_) rfl rfl (fun wg hbg hdg => ?_) ?_
   rotate_left
   focus ((obtain ⟨ba,bq,bb⟩:=B1.out.later hbg);(obtain ⟨bt,ar,ay⟩:=B2.out.later hbg);(obtain ⟨m0,m1,m2,m3, -, -, -, -⟩:=cd.out.below (HW.out.trans (hbg.mono HW.out.size)) dw);clear hbg hdg;first | (go_simp;done) | (go_simp;with_reducible rfl))
   simp only [Act.put,aA,aE,aF]
   iterate 2 (refine Seven.Grow.made (T := ?_) rfl rfl (fun wg hbg hdg => ?_) ?_;rotate_left;(focus ((obtain ⟨ba,bq,bb⟩:=B1.out.later hbg);(obtain ⟨bt,ar,ay⟩:=B2.out.later hbg);clear hbg hdg;first | (go_simp;done) | (go_simp;with_reducible rfl)));simp only [Act.put,Seven.Known.val,aA,aE,aF])
   refine Seven.Grow.turns rfl (by intro h;cases h) (fun wg hbg hdg => ?_) ?_
   focus ((have ew:Seven.MadeS (fun b=>.pointer (some ⟨b,0,none⟩)) #[.int .i64 0,.int .i64 0,.slice none 0 0,.int .i64 0] (ν 10).1 (ν 10).2 wg:=hdg.fact 10 ⟨by kernel_rfl,.inr rfl⟩);(obtain ⟨bz,ev,cF,cb⟩:=ew);simp only [ev];refine ⟨_, ?_,Foot.one bz,⟨bz,rfl,fun k=>Iff.rfl,(qG cb (.int .i64 p.op) (.int .i64 p.id) (.slice af p.args.length cf) (.int .i64 p.n)).2⟩,(oB (qG cb (.int .i64 p.op) (.int .i64 p.id) (.slice af p.args.length cf) (.int .i64 p.n)).1).mono (fun q _ hq=>⟨10,rfl,(cF q).2 hq⟩),fun q hq=>⟨.inl ⟨10,rfl,(cF q).2 hq⟩,by cases hq;exact (qG cb (.int .i64 p.op) (.int .i64 p.id) (.slice af p.args.length cf) (.int .i64 p.n)).2.lt⟩⟩;obtain ⟨fy,fv,fk⟩:=cb;(obtain ⟨ba,bq,bb⟩:=B1.out.later hbg);(obtain ⟨bt,ar,ay⟩:=B2.out.later hbg);clear hbg hdg;first | (go_simp;done) | (go_simp;with_reducible rfl))
   simp only [Act.put,Seven.Known.val,aA,aE,aF]
   intro wg hb hf
   obtain ⟨ad,ao,an,bf⟩:=hf.fact 12 ⟨by omega,rfl⟩
   have bs:wr.heap.size <= ad:=hf.base 12 ad ⟨by omega,rfl⟩ ((an ad).2 rfl)
   have bl:ad ≠ w.heap.size:=fun e=>by have:=ae;omega
   have cB:w.heap.size ≠ ad:=fun e=>bl e.symm
   have bg:ad ≠ w.heap.size+1:=fun e=>by have:=ag;omega
   have cy:w.heap.size+1 ≠ ad:=fun e=>bg e.symm
   obtain ⟨aa,bd,am,br⟩:=hf.fact 11 ⟨by omega,rfl⟩
   have bv:wr.heap.size <= aa:=hf.base 11 aa ⟨by omega,rfl⟩ ((am aa).2 rfl)
   have aw:aa ≠ w.heap.size:=fun e=>by have:=ae;omega
   have dk:w.heap.size ≠ aa:=fun e=>aw e.symm
   have aq:aa ≠ w.heap.size+1:=fun e=>by have:=ag;omega
   have dl:w.heap.size+1 ≠ aa:=fun e=>aq e.symm
   have dj:ad ≠ aa:=fun e=>hf.apart 12 11 ⟨by omega,rfl⟩ ⟨by omega,rfl⟩ (by omega) ad ((an ad).2 rfl) ((am ad).2 e)
   have cz:aa ≠ ad:=fun e=>hf.apart 11 12 ⟨by omega,rfl⟩ ⟨by omega,rfl⟩ (by omega) aa ((am aa).2 rfl) ((an aa).2 e)
   simp only [ao,bd]
   clear ao bd
   have fl:=bA HW.out.size bs
   clear bs
   have fm:=bA HW.out.size bv
   clear bv
   clear ae ah ai ag aj ak
   have fo:=hb
   replace B1:=h! (B1.out.later hb)
   replace B2:=h! (B2.out.later hb)
   replace HW:=h! (HW.out.trans (hb.mono HW.out.size))
   clear hb
   have BP:=h! bf
   clear bf
   have BR:=h! br
   clear br
   obtain ⟨ae,ah,ai⟩:=B1.out
   obtain ⟨ag,aj,ak⟩:=B2.out
   obtain ⟨be,bi,bj⟩:=BP.out
   obtain ⟨az,ax,bk⟩:=BR.out
   clear hf
   go_upto_region 13 with (fail)
   clear ae ah ai ag aj ak be bi bj az ax bk
   have bw:=((((Only.set wg (aa) 0 (.int .i64 r.op)).put 1 (.int .i64 r.id)).put 2 (.slice bo r.args.length bm)).put 3 (.int .i64 r.n))
   replace B1:=h! (B1.out.only bw (by first | assumption | (simp;done) | omega))
   replace B2:=h! (B2.out.only bw (by first | assumption | (simp;done) | omega))
   replace BP:=h! (BP.out.only bw (by first | assumption | (simp;done) | omega))
   replace HW:=h! (bw.2.2 HW.out (by first | assumption | omega | (have:=HW.out.size;omega) | (simp;done) | (simp;omega)))
   replace BR:=h! (Box.to (A':=#[(.int .i64 r.op),(.int .i64 r.id),(.slice bo r.args.length bm),(.int .i64 r.n)]) ((((BR.out.set 0 (.int .i64 r.op)).set 1 (.int .i64 r.id)).set 2 (.slice bo r.args.length bm)).set 3 (.int .i64 r.n)) (by first | rfl | simp))
   clear bw
   generalize ((((wg.setCell ⟨aa,0,none⟩ (.int .i64 r.op)).setCell ⟨aa,1,none⟩ (.int .i64 r.id)).setCell ⟨aa,2,none⟩ (.slice bo r.args.length bm)).setCell ⟨aa,3,none⟩ (.int .i64 r.n))=w4 at *
   obtain ⟨ae,ah,ai⟩:=B1.out
   obtain ⟨ag,aj,ak⟩:=B2.out
   obtain ⟨be,bi,bj⟩:=BP.out
   obtain ⟨az,ax,bk⟩:=BR.out
   have al:Hid (Ints w4 (.slice af p.args.length cf) p.args/\Ints w4 (.slice bo r.args.length bm) r.args):=h! ⟨HP.out.args.below HW.out,cd.out.args.below HW.out⟩
   have bO:Hid (p ≠ r -> q=false):=h! (fun h=>by rw [HQ.out];exact decide_eq_false (fun e=>h (by have h9:=cM.out;rw [e,db.out] at h9;cases h9;rfl)))
   clear HP cd
   cases g1:(p.op != r.op)
   rotate_left
   ·skip
    have ab:q=false:=bO.out (fun e=>(by have h9:p.op ≠ r.op:=(by simpa using g1);exact h9 (by rw [e])))
    subst ab
    go_wp2
    go_ret
    exact ⟨rfl,HW.out⟩
   cases g2:(p.id != r.id)
   rotate_left
   ·skip
    have ab:q=false:=bO.out (fun e=>(by have h9:p.id ≠ r.id:=(by simpa using g2);exact h9 (by rw [e])))
    subst ab
    go_wp2
    go_ret
    exact ⟨rfl,HW.out⟩
   cases g3:(p.n != r.n)
   rotate_left
   ·skip
    have ab:q=false:=bO.out (fun e=>(by have h9:p.n ≠ r.n:=(by simpa using g3);exact h9 (by rw [e])))
    subst ab
    go_wp2
    go_ret
    exact ⟨rfl,HW.out⟩
   go_wp2_with fail
   refine (yU al.out.1 al.out.2).mono ?_
   rintro e w5 ⟨rfl,hb⟩
   obtain ⟨c,hc⟩ : ∃ c,c=decide (p.args=r.args):=⟨_,rfl⟩
   rw [<-hc]
   have HC:=h! hc
   clear hc al
   clear ae ah ai ag aj ak be bi bj az ax bk
   replace B1:=h! (B1.out.later hb)
   replace B2:=h! (B2.out.later hb)
   replace BP:=h! (BP.out.later hb)
   replace BR:=h! (BR.out.later hb)
   replace HW:=h! (HW.out.trans (hb.mono HW.out.size))
   clear hb
   obtain ⟨ae,ah,ai⟩:=B1.out
   obtain ⟨ag,aj,ak⟩:=B2.out
   obtain ⟨be,bi,bj⟩:=BP.out
   obtain ⟨az,ax,bk⟩:=BR.out
   cases c
   ·skip
    have ab:q=false:=bO.out (fun e=>(by have h9:=HC.out;simp [e] at h9))
    subst ab
    go_wp2
    go_ret
    exact ⟨rfl,HW.out⟩
   have es:Hid (p=r):=h! (aBW (by simpa using g1) (by simpa using g2) (by simpa using HC.out.symm) (by simpa using g3))
   go_wp2
   go_roundw
   case rel =>
    refine ⟨k+1,da,by go_num,HW.out,B1.out,B2.out,fun j hj => ?_⟩
    by_cases e:j=k
    ·subst e;rw [cM.out,db.out,es.out]
    exact HS.out j (by omega)
   simp [intOf];omega
  have fq:Hid (x.code=y.code):=h! (oG ex.out cg.out (fun j hj=>HS.out j (by omega)))
  have fw:q=true:=by rw [HQ.out];exact decide_eq_true (aBV fz.out fq.out dr.out.1 dr.out.2.1 dr.out.2.2.1 dr.out.2.2.2)
  subst fw
  go_wp2
  go_ret
  exact ⟨rfl,HW.out⟩
end Go.Proofs.YtagabiidbbhhmaaGreat
