/- Part 33. -/
import Derived.Test.YtagabiidbbhhmaaGreatEU32
namespace Go.Proofs.YtagabiidbbhhmaaGreat
set_option maxHeartbeats 25600000
set_option linter.all false
open Go.RowKit
private theorem fN.alloc {w0 W:World} (h:fN w0 W) (o:Obj):fN w0 (W.alloc o):=h.later ((Below.refl _ _).alloc (aC _) o)
def aAM (f:FuncD) (w:World) (e:Ending) (w' : World):Prop :=
 ∃ b g:Int,e = .returned (.tuple #[.int .i64 b,.int .i64 g])/\(eV f ≠ 0 -> b=0/\g=eV f)/\(eV f=0 -> gD f b g)/\Below w.heap.size w w'
theorem aFO {f:FuncD} {u:UseD} {d k:Int} (h:((entF f).find? fun e=>e.1 == u.id)=some (u.id,d,k)):gV f u ↔ ((u.pos < 0/\kB f d.toNat u.src.toNat) \/ (¬ u.pos < 0/\kI f d k u.blk u.pos)) :=
 ⟨fun ⟨d2,k2,h2,h3⟩=>by rw [h] at h2;cases h2;exact h3,fun h3=>⟨d,k,h,h3⟩⟩
set_option maxRecDepth 100000 in
theorem aAN {w:World} {v:Value} {f:FuncD} (hv:fP w v f):Calls Tryz.prog 38 #[v] w (aAM f w):=by
 have HV:=h! hv
 obtain ⟨ap,cp,ab,cb,rfl,hp,ha,hc,hB⟩:=hv.form
 obtain ⟨a2,c2,bb,bo,fq,es,hbm,fg,co,ds⟩:=eW hB
 cases fq
 have dy:Hid (eV f=0 -> 1 <= f.blocks.length/\f.blocks.length <= 512):=h! (fun h=>gG (eY h).1)
 obtain ⟨np,cd⟩ : ∃ np,np=f.params.length:=⟨_,rfl⟩
 obtain ⟨ar,cf⟩ : ∃ ar,ar=f.arrays:=⟨_,rfl⟩
 obtain ⟨ce,ct⟩ : ∃ ce,ce=f.cells:=⟨_,rfl⟩
 obtain ⟨nb,bg⟩ : ∃ nb,nb=f.blocks.length:=⟨_,rfl⟩
 rw [<-bg, <-cd, <-cf, <-ct] at HV
 rw [<-bg] at es co fg
 rw [<-bg, <-cd, <-cf, <-ct]
 have ah:=h! bg
 have er:=h! co
 have eg:=h! ds
 clear hp ha hc hB hv ds cd bg co cf ct
 go_enter Tryz.func38,Tryz.ntmps38
 go_upto_region 1 with (fail)
 have ay:=(Below.refl w.heap.size w).alloc (aC _) (.cells #[.slice ap np cp,.int .i64 ar,.int .i64 ce,.slice ab nb cb] 25)
 have HW:=h! ay
 clear ay
 have B1:=h! (Box.new w #[.slice ap np cp,.int .i64 ar,.int .i64 ce,.slice ab nb cb] 25)
 generalize w.alloc (.cells #[.slice ap np cp,.int .i64 ar,.int .i64 ce,.slice ab nb cb] 25)=wv at *
 obtain ⟨aa,ac,ad⟩:=B1.out
 go_wp2_with fail
 refine (vC (HV.out.below HW.out)).mono ?_
 rintro e w1 ⟨rfl,hb⟩
 clear aa ac ad
 replace B1:=h! (B1.out.later hb)
 replace HW:=h! (HW.out.trans (hb.mono HW.out.size))
 clear hb
 obtain ⟨aa,ac,ad⟩:=B1.out
 by_cases hc0:eV f=0
 ·have al:=h! hc0
  obtain ⟨ec,ck⟩:=dy.out hc0
  rw [<-ah.out] at ec ck
  have eh:(eV f != 0)=false:=by simpa using hc0
  have HF:=h! (eY hc0).1
  clear hc0
  obtain ⟨rfl,cL⟩:=er.out (by omega)
  go_wp2_with fail
  refine (nJ (gone := -1) (HV.out.below HW.out) HF.out).mono ?_
  rintro e w2 ⟨sv,S,rfl,hS,dv,hb⟩
  have HS:=h! hS
  obtain ⟨sa,sc,sb,so,df,ed,hsm,cw,dt⟩:=dv.parts
  have bs:S.length=nb:=by rw [hS.1,ah.out]
  rw [bs] at df ed cw
  subst df
  obtain ⟨rfl,dl⟩:=cw (by omega)
  obtain ⟨W2,bl⟩ : ∃ W2,W2=w2:=⟨_,rfl⟩
  have fl:Hid (∀ (j:Nat) (x:Bool),S[j]? = some x -> W2.cell? ⟨sb,so+j,none⟩=some (.bool x)):=h! (by rw [bl];exact dt)
  have fi:=h! bs
  rw [<-bl] at dl
  have cy:Hid (fN W2 w2):=h! (by rw [bl];exact Below.refl _ _)
  clear hS dv dt cw bs bl
  clear aa ac ad
  replace B1:=h! (B1.out.later hb)
  replace HW:=h! (HW.out.trans (hb.mono HW.out.size))
  clear hb
  obtain ⟨aa,ac,ad⟩:=B1.out
  go_wp2_with fail
  go_loopw [6] (fun i wr => ∃ c:Nat,c <= nb/\i = .int .i64 c/\(∀ d,d < c -> Way (toB f) (-1) d)/\wr=w2) (fun i _=>nb - (intOf i).toNat)
  case atStart=>exact ⟨0,aH _,rfl,fun d h=>absurd h (eC _),rfl⟩
  obtain ⟨c,hc,rfl,af,he⟩:=hrel
  subst he
  have ax:=h! af
  clear af
  by_cases hlt:c < nb
  ·obtain ⟨x,hx⟩ : ∃ x,S[c]? = some x:=⟨_,aB (by rw [fi.out];exact hlt)⟩
   have d1:=(Below.cell cy.out (p:=⟨sb,so+c,none⟩) dl).trans (fl.out c x hx)
   have hw:=HS.out.2 c
   rw [hx] at hw
   have dg:=h! hw
   clear hx hw
   cases x
   ·have ak:Hid (gD f c 4):=h! (.inl ⟨c,by rw [<-ah.out];exact hlt,(fun h=>by have:=dg.out.2 h;cases this),ax.out,rfl,rfl⟩)
    go_wp2
    go_ret2
    exact ⟨_,_,rfl,(fun h=>absurd al.out h),(fun _=>ak.out),HW.out⟩
   have am:Hid (∀ d,d < c+1 -> Way (toB f) (-1) d):=h! (fun d hd=>by
    by_cases e:d=c
    ·subst e;exact dg.out.1 rfl
    exact ax.out d (by omega))
   go_wp2
   go_roundw
   case rel=>exact ⟨c+1,hlt,by go_num,am.out,by first | rfl | trivial⟩
   simp [intOf];omega
  have aj:Hid (∀ d,d < f.blocks.length -> Way (toB f) (-1) d):=h! (fun d hd=>ax.out d (by rw [<-ah.out] at hd;omega))
  go_wp2_with fail
  refine (aCC (HV.out.below HW.out) HF.out).mono ?_
  rintro e w3 ⟨pv,rfl,dp,hb⟩
  obtain ⟨ej,pa,pc,pb,po,dj,et,hpm,ef,ch,bq,bp⟩:=dp.parts
  have bc:(gT f).length=nb:=by unfold gT;rw [iF,ah.out]
  rw [bc] at dj et ch ef bq bp
  obtain ⟨rfl,dh⟩:=ch (by omega)
  subst dj
  obtain ⟨W3,cr⟩ : ∃ W3,W3=w3:=⟨_,rfl⟩
  rw [<-cr] at bq bp dh
  have ey:=h! bq
  have ft:=h! bp
  have ai:Hid (fN W3 w3):=h! (by rw [cr];exact Below.refl _ _)
  clear bq bp ch bc dp cr cy
  clear aa ac ad
  replace B1:=h! (B1.out.later hb)
  replace HW:=h! (HW.out.trans (hb.mono HW.out.size))
  clear hb
  obtain ⟨aa,ac,ad⟩:=B1.out
  go_wp2_with fail
  go_loopw [8] (fun i wr => ∃ c:Nat,c <= nb/\i = .int .i64 c/\(∀ (d:Nat) (y:BlockD),d < c -> f.blocks[d]? = some y -> y.phis.all (fU (natI (fX f f.blocks.length 0 d)))=true)/\fN W3 wr/\Below w.heap.size w wr/\Box wr w.heap.size #[.slice ap np cp,.int .i64 ar,.int .i64 ce,.slice (some ⟨bb,bo,none⟩) nb cb]) (fun i _=>nb - (intOf i).toNat)
  case atStart=>exact ⟨0,aH _,rfl,fun d y h=>absurd h (eC _),ai.out,HW.out,B1.out⟩
  obtain ⟨c,hc,rfl,af,hS,hW,h1⟩:=hrel
  clear aa ac ad
  have cs:=h! af
  replace ai:=h! hS
  replace HW:=h! hW
  replace B1:=h! h1
  clear af hS hW h1
  generalize wr=w4 at *
  obtain ⟨aa,ac,ad⟩:=B1.out
  by_cases hlt:c < nb
  ·obtain ⟨x,cj⟩ : ∃ x,f.blocks[c]? = some x:=⟨_,aB (by have:=ah.out;omega)⟩
   obtain ⟨ek,fp,fj,ff,fk,fd,hC⟩:=eg.out c x cj
   have cM:=h! cj
   have HC:=h! hC
   obtain ⟨ps,cl⟩ : ∃ ps,ps=fX f f.blocks.length 0 c:=⟨_,rfl⟩
   have de:(gT f).getD c []=natI ps:=by
    rw [cl,aN]
    unfold gT
    rw [jX (by rw [<-ah.out];exact hlt)]
    rfl
   have cq:Ints W3 (ej.getD c undef) (natI ps):=by
    have h9:=ft.out c hlt
    rwa [de] at h9
   have CP:=h! ((Below.cell ai.out (p:=⟨pb,po+c,none⟩) dh).trans (ey.out c hlt))
   have dk:=World.block_lt_of_cell? w4 _ CP.out
   have da:=h! cq
   have cB:=h! cl
   obtain ⟨qa,qc,cx⟩:=cq.form
   obtain ⟨ql,dw⟩ : ∃ ql,ql=(natI ps).length:=⟨_,rfl⟩
   rw [<-dw] at cx
   rw [cx] at CP da
   obtain ⟨k,hk⟩ : ∃ k,k=x.phis.all (fU (natI ps)):=⟨_,rfl⟩
   have HK:=h! hk
   have ee:Hid (∀ wg,Below w4.heap.size w4 wg -> Calls Tryz.prog 76 #[.agg #[.slice ek x.phis.length ff,.slice fp x.code.length fk,.int .i64 x.term.op,.int .i64 x.term.val,.slice fj x.term.to.length fd,.int .i64 x.term.n],.slice qa ql qc] wg fun e w'=>e = .returned (.bool k)/\Below wg.heap.size wg w'):=h! (fun wg hbg=>by
    rw [hk]
    exact aDS (HC.out.phis.below PhiR.lasting (HW.out.trans (hbg.mono HW.out.size))) (da.out.below (fN.later ai.out hbg)))
   clear cj hC cl de cq cx dw hk
   go_upto_region 14 with (fail)
   refine wp_region_grow 11 (fun kz=>match kz with | 9=>.const (.bool k) | _=>.plain) (by kernel_rfl) (by kernel_rfl) ?_ (fun ν => ?_)
   ·(intro k;(try dsimp only);split <;> first | exact True.intro | (intro u w1 w2 hu hb;exact hu.below hb))
   simp only [aP,aU,aS,aX]
   iterate 9 (refine Grow.val (v := ?_) rfl rfl (fun wg hbg hdg => ?_) ?_;rotate_left;(focus ((obtain ⟨en,fe,eo⟩:=B1.out.later hbg);(obtain ⟨k0,k1,k2,k3,k4,k5, -, -, -, -, -, -⟩:=HC.out.below (HW.out.trans (hbg.mono HW.out.size)) cL;have ew:=(hbg.cell (p:=⟨pb,po+c,none⟩) dk).trans CP.out);clear hbg hdg;first | (go_simp;done) | (go_simp;with_reducible rfl)));simp only [Act.put,aA,aE,aF])
   refine Grow.call (f := ?_) (args := ?_) rfl (fun wg => ?_) (fun wg hbg hdg => ?_) ?_
   rotate_left 2
   focus (first | (go_simp;done) | (go_simp;refine And.intro ?_ ?_ <;> with_reducible rfl) | (go_simp;with_reducible rfl))
   focus exact Calls.mono (ee.out wg hbg) (fun e w2 ⟨he,hb2⟩=>⟨_,he,rfl,hb2⟩)
   simp only [Act.put,Known.val,aA,aE,aF]
   refine Grow.val (v := ?_) rfl rfl (fun wg hbg hdg => ?_) ?_
   rotate_left
   focus ((obtain ⟨en,fe,eo⟩:=B1.out.later hbg);(obtain ⟨k0,k1,k2,k3,k4,k5, -, -, -, -, -, -⟩:=HC.out.below (HW.out.trans (hbg.mono HW.out.size)) cL;have ew:=(hbg.cell (p:=⟨pb,po+c,none⟩) dk).trans CP.out);clear hbg hdg;first | (go_simp;done) | (go_simp;with_reducible rfl))
   simp only [Act.put,aA,aE,aF]
   intro wg hb hf dz
   clear dz
   clear aa ac ad
   replace B1:=h! (B1.out.later hb)
   replace ai:=h! (ai.out.later hb)
   replace HW:=h! (HW.out.trans (hb.mono HW.out.size))
   clear hb
   obtain ⟨aa,ac,ad⟩:=B1.out
   clear hf
   cases k
   ·have ak:Hid (gD f c 5):=h! (.inr ⟨aj.out,.inl ⟨c,x,cM.out,by rw [<-cB.out];exact HK.out.symm,cs.out,rfl,rfl⟩⟩)
    go_wp2
    go_ret2
    exact ⟨_,_,rfl,(fun h=>absurd al.out h),(fun _=>ak.out),HW.out⟩
   have am:Hid (∀ (d:Nat) (y:BlockD),d < c+1 -> f.blocks[d]? = some y -> y.phis.all (fU (natI (fX f f.blocks.length 0 d)))=true):=h! (fun d y hd hy=>by
    by_cases e:d=c
    ·subst e
     rw [cM.out] at hy
     cases hy
     rw [<-cB.out];exact HK.out.symm
    exact cs.out d y (by omega) hy)
   go_wp2
   go_roundw
   case rel=>exact ⟨c+1,hlt,by go_num,am.out,ai.out,HW.out,B1.out⟩
   simp [intOf];omega
  have br:Hid (∀ (d:Nat) (y:BlockD),f.blocks[d]? = some y -> y.phis.all (fU (natI (fX f f.blocks.length 0 d)))=true):=h! (fun d y hy=>cs.out d y (by have:=(aD.1 hy).1;rw [<-ah.out] at this;omega) hy)
  go_wp2_with fail
  refine (aD9 (HV.out.below HW.out) HF.out).mono ?_
  rintro e w5 ⟨ov,rfl,dq,hb⟩
  have fh:=h! dq
  clear dq
  clear aa ac ad
  replace B1:=h! (B1.out.later hb)
  replace ai:=h! (ai.out.later hb)
  replace HW:=h! (HW.out.trans (hb.mono HW.out.size))
  clear hb
  obtain ⟨aa,ac,ad⟩:=B1.out
  go_wp2_with fail
  refine (aBO (HV.out.below HW.out) (jP HF.out)).mono ?_
  rintro e w6 ⟨uv,rfl,dm,hb⟩
  obtain ⟨oc,ob,oo,rfl,ea,hom,bz,ag⟩:=(fh.out.below hb).parts (by rw [<-ah.out];omega)
  rw [<-ah.out] at ea ag
  have fm:=zJ (jP HF.out)
  have cG:Row w6 uv (uxF f).length 5 (iY (uxF f)):=Row.of_own dm (by omega)
  obtain ⟨xa,xc,xb,xo,rfl,fa,hxm,bw,bx⟩:=cG.parts
  obtain ⟨m,hm⟩ : ∃ m,m=(uxF f).length:=⟨_,rfl⟩
  rw [<-hm] at fm fa ⊢
  obtain ⟨W6,cn⟩ : ∃ W6,W6=w6:=⟨_,rfl⟩
  rw [<-cn] at ag bz bw bx
  have bj:=h! ag
  have ei:=h! bw
  have be:=h! bx
  have HM:=h! hm
  have ae:Hid (fN W6 w6):=h! (by rw [cn];exact Below.refl _ _)
  rw [<-ah.out]
  clear aa ac ad
  replace B1:=h! (B1.out.later hb)
  replace ai:=h! (ai.out.later hb)
  replace HW:=h! (HW.out.trans (hb.mono HW.out.size))
  clear hb
  obtain ⟨aa,ac,ad⟩:=B1.out
  clear ag bw bx dm cG cn hm
  replace ai:=ae
  go_wp2_with fail
  go_loopw [11] (fun i wr => ∃ c:Nat,c <= m/\i = .int .i64 c/\(∀ v ∈ (uxF f).take c,gV f v)/\fN W6 wr/\Below w.heap.size w wr/\Box wr w.heap.size #[.slice ap np cp,.int .i64 ar,.int .i64 ce,.slice (some ⟨bb,bo,none⟩) nb cb]) (fun i _=>m - (intOf i).toNat)
  case atStart=>exact ⟨0,aH _,rfl,by simp,ae.out,HW.out,B1.out⟩
  obtain ⟨c,hc,rfl,af,hS,hW,h1⟩:=hrel
  clear aa ac ad
  have aw:=h! af
  clear ai
  replace ae:=h! hS
  replace HW:=h! hW
  replace B1:=h! h1
  clear af hS hW h1
  generalize wr=w7 at *
  obtain ⟨aa,ac,ad⟩:=B1.out
  by_cases hlt:c < m
  ·obtain ⟨u,hu⟩ : ∃ u,(uxF f)[c]? = some u:=⟨_,aB (by have:=HM.out;omega)⟩
   obtain ⟨x0,x1,x2,x3,x4⟩:=sI _ _ _ hu
   obtain ⟨rfl,bk⟩:=ei.out (by have:=(aD.1 x0).1;omega)
   have e0:=(Below.cell ae.out (p:=⟨xb,xo+c * 5,none⟩) bk).trans (be.out _ _ x0)
   have e1:=(Below.cell ae.out (p:=⟨xb,xo+(c * 5+1),none⟩) bk).trans (be.out _ _ x1)
   have e2:=(Below.cell ae.out (p:=⟨xb,xo+(c * 5+2),none⟩) bk).trans (be.out _ _ x2)
   have e3:=(Below.cell ae.out (p:=⟨xb,xo+(c * 5+3),none⟩) bk).trans (be.out _ _ x3)
   have e4:=(Below.cell ae.out (p:=⟨xb,xo+(c * 5+4),none⟩) bk).trans (be.out _ _ x4)
   rw [<-Nat.add_assoc] at e1 e2 e3 e4
   have cv:=aG hu
   obtain ⟨d,k,cF,ev,eb⟩:=mO al.out cv
   obtain ⟨fs,em,dc⟩:=rH HF.out cv
   obtain ⟨dn,rfl⟩ : ∃ dn:Nat,d=(dn:Int):=⟨d.toNat,by omega⟩
   obtain ⟨bn,bt⟩ : ∃ bn:Nat,u.blk=(bn:Int):=⟨u.blk.toNat,by omega⟩
   have ep:dn < nb:=by have:=ah.out;omega
   have cg:bn < nb:=by have:=ah.out;omega
   obtain ⟨ra,ba,bh,az⟩:=bj.out dn ep
   obtain ⟨y,cz,dr⟩:=az bn cg
   have bO:=h! cF
   have HU:=h! hu
   have bv:=h! (eS _ _ _ hu)
   have bm:=h! bt
   have db:=h! ba
   have fb:=h! cz
   have fc:=h! dr
   have fo:=h! az
   have dx:=h! dc
   rw [bt] at e2
   clear hu x0 x1 x2 x3 x4 cv cF ev eb fs em dc bt ba az cz dr
   go_upto_region 22 with (fail)
   have bi:w7.heap.size ≠ w.heap.size:=fun e=>by have:=aa;omega
   have nB1BU:w.heap.size ≠ w7.heap.size:=fun e=>bi e.symm
   clear aa ac ad
   have ay:=(Below.refl w7.heap.size w7).alloc (aC _) (.cells #[.int .i64 u.id,.int .i64 u.typ,.int .i64 bn,.int .i64 u.pos,.int .i64 u.src] 40)
   replace B1:=h! (B1.out.later ay)
   replace ae:=h! (ae.out.later ay)
   replace HW:=h! (HW.out.trans (ay.mono HW.out.size))
   clear ay
   have BU:=h! (Box.new w7 #[.int .i64 u.id,.int .i64 u.typ,.int .i64 bn,.int .i64 u.pos,.int .i64 u.src] 40)
   generalize w7.alloc (.cells #[.int .i64 u.id,.int .i64 u.typ,.int .i64 bn,.int .i64 u.pos,.int .i64 u.src] 40)=w8 at *
   obtain ⟨aa,ac,ad⟩:=B1.out
   obtain ⟨aq,ao,an⟩:=BU.out
   clear e0 e1 e2 e3 e4
   go_wp2_with fail
   refine (aFM (id:=u.id) (HV.out.below HW.out)).mono ?_
   rintro e w9 ⟨b9,k9,ex,rfl,bd,hb⟩
   have bf:b9=(dn:Int)/\k9=k/\ex=true:=by
    rcases bd with ⟨e,he,h1,h2,h3⟩ | ⟨he,_⟩
    ·rw [bO.out] at he
     cases he
     exact ⟨h1,h2,h3⟩
    rw [bO.out] at he;cases he
   obtain ⟨rfl,rfl,rfl⟩:=bf
   clear bd
   clear aa ac ad aq ao an
   replace B1:=h! (B1.out.later hb)
   replace BU:=h! (BU.out.later hb)
   replace ae:=h! (ae.out.later hb)
   replace HW:=h! (HW.out.trans (hb.mono HW.out.size))
   clear hb
   obtain ⟨aa,ac,ad⟩:=B1.out
   obtain ⟨aq,ao,an⟩:=BU.out
   have d1:=(Below.cell ae.out (p:=⟨ob,oo+dn,none⟩) bz).trans db.out
   have d2:=(Below.cell ae.out (p:=⟨ra,bn,none⟩) bh).trans fb.out
   go_upto_region 23 with (fail)
   go_quiet (fail)
   clear aa ac ad aq ao an
   clear d1 d2
   replace HW:=h! (eT HW.out nq)
   replace ae:Hid (fN W6 (w9.drewN nq)):=h! (eT ae.out nq)
   replace B1:=h! (B1.out.drewN nq)
   replace BU:=h! (BU.out.drewN nq)
   generalize w9.drewN nq=wq at *
   obtain ⟨aa,ac,ad⟩:=B1.out
   obtain ⟨aq,ao,an⟩:=BU.out
   have cm:Hid (gV f u ↔ ((u.pos < 0/\kB f dn u.src.toNat) \/ (¬ u.pos < 0/\kI f dn k9 bn u.pos))):=h! (by rw [aFO bO.out,bm.out];rfl)
   by_cases hpos:u.pos < 0
   ·obtain ⟨s0,s1⟩:=dx.out hpos
    obtain ⟨sn,cc⟩ : ∃ sn:Nat,u.src=(sn:Int):=⟨u.src.toNat,by omega⟩
    have ci:sn < nb:=by have:=ah.out;omega
    obtain ⟨z,dd,di⟩:=fo.out sn ci
    have HZ:Hid (z=true ↔ gV f u):=h! (by
     rw [di,cm.out,cc,Int.toNat_natCast]
     exact ⟨fun h=>.inl ⟨hpos,h⟩,fun h=>h.elim (fun h=>h.2) (fun h=>absurd hpos h.1)⟩)
    have d1:=(Below.cell ae.out (p:=⟨ob,oo+dn,none⟩) bz).trans db.out
    have d2:=(Below.cell ae.out (p:=⟨ra,sn,none⟩) bh).trans dd
    rw [cc] at BU
    clear aq ao an
    obtain ⟨aq,ao,an⟩:=BU.out
    clear dd di s0 s1 cc
    go_upto_region 25 with (fail)
    go_quiet (fail)
    clear aa ac ad aq ao an
    clear d1 d2
    replace HW:=h! (eT HW.out nq)
    replace ae:Hid (fN W6 (wq.drewN nq)):=h! (eT ae.out nq)
    replace B1:=h! (B1.out.drewN nq)
    replace BU:=h! (BU.out.drewN nq)
    generalize wq.drewN nq=wz at *
    obtain ⟨aa,ac,ad⟩:=B1.out
    obtain ⟨aq,ao,an⟩:=BU.out
    cases z
    ·have ak:Hid (gD f bn 6):=h! (.inr ⟨aj.out,.inr ⟨br.out,.inl ⟨c,u,HU.out,(fun h=>by have:=HZ.out.2 h;cases this),aw.out,bm.out.symm,rfl⟩⟩⟩)
     go_wp2
     go_ret2
     exact ⟨_,_,rfl,(fun h=>absurd al.out h),(fun _=>ak.out),HW.out⟩
    have am:Hid (∀ v ∈ (uxF f).take (c+1),gV f v):=h! (by
     rw [bv.out]
     intro v hv
     rcases aL.1 hv with hv | hv
     ·exact aw.out v hv
     simp at hv;subst hv;exact HZ.out.1 rfl)
    go_wp2
    go_roundw
    case rel=>exact ⟨c+1,hlt,by go_num,am.out,ae.out,HW.out,B1.out⟩
    simp [intOf];omega
   by_cases hdb:dn=bn
   ·have hq:((dn:Int) == (bn:Int))=true:=by simp [hdb]
    obtain ⟨z,hz⟩ : ∃ z,z=decide (k9 < u.pos):=⟨_,rfl⟩
    have HZ:Hid (z=true ↔ gV f u):=h! (by
     rw [hz,decide_eq_true_iff,cm.out]
     unfold kI
     exact ⟨fun h=>.inr ⟨hpos,.inl ⟨by omega,h⟩⟩,fun h=>h.elim (fun h=>absurd h.1 hpos) (fun h=>h.2.elim (fun h=>h.2) (fun h=>absurd (by omega) h.1))⟩)
    have ez:=h! hdb
    clear hdb
    by_cases hkp:k9 < u.pos
    ·have ca:z=true:=by rw [hz];exact decide_eq_true hkp
     subst ca
     clear hz
     have am:Hid (∀ v ∈ (uxF f).take (c+1),gV f v):=h! (by
      rw [bv.out]
      intro v hv
      rcases aL.1 hv with hv | hv
      ·exact aw.out v hv
      simp at hv;subst hv;exact HZ.out.1 rfl)
     go_wp2
     go_roundw
     case rel=>exact ⟨c+1,hlt,by go_num,am.out,ae.out,HW.out,B1.out⟩
     simp [intOf];omega
    have ca:z=false:=by rw [hz];exact decide_eq_false hkp
    subst ca
    clear hz
    have ak:Hid (gD f bn 6):=h! (.inr ⟨aj.out,.inr ⟨br.out,.inl ⟨c,u,HU.out,(fun h=>by have:=HZ.out.2 h;cases this),aw.out,bm.out.symm,rfl⟩⟩⟩)
    go_wp2
    go_ret2
    exact ⟨_,_,rfl,(fun h=>absurd al.out h),(fun _=>ak.out),HW.out⟩
   have hq:((dn:Int) == (bn:Int))=false:=by simp;omega
   have HZ:Hid (y=true ↔ gV f u):=h! (by
    rw [fc.out,cm.out]
    unfold kI
    exact ⟨fun h=>.inr ⟨hpos,.inr ⟨by omega,by simpa using h⟩⟩,fun h=>h.elim (fun h=>absurd h.1 hpos) (fun h=>h.2.elim (fun h=>absurd h.1 (by omega)) (fun h=>by simpa using h.2))⟩)
   have ez:=h! hdb
   clear hdb
   cases y
   ·have ak:Hid (gD f bn 6):=h! (.inr ⟨aj.out,.inr ⟨br.out,.inl ⟨c,u,HU.out,(fun h=>by have:=HZ.out.2 h;cases this),aw.out,bm.out.symm,rfl⟩⟩⟩)
    go_wp2
    go_ret2
    exact ⟨_,_,rfl,(fun h=>absurd al.out h),(fun _=>ak.out),HW.out⟩
   have am:Hid (∀ v ∈ (uxF f).take (c+1),gV f v):=h! (by
    rw [bv.out]
    intro v hv
    rcases aL.1 hv with hv | hv
    ·exact aw.out v hv
    simp at hv;subst hv;exact HZ.out.1 rfl)
   go_wp2
   go_roundw
   case rel=>exact ⟨c+1,hlt,by go_num,am.out,ae.out,HW.out,B1.out⟩
   simp [intOf];omega
  have ak:Hid (gD f 0 0):=h! (.inr ⟨aj.out,.inr ⟨br.out,.inr ⟨by have h9:=aw.out;rw [aJ (by have:=HM.out;omega)] at h9;exact h9,rfl,rfl⟩⟩⟩)
  go_wp2
  go_ret2
  exact ⟨_,_,rfl,(fun h=>absurd al.out h),(fun _=>ak.out),HW.out⟩
 have eh:(eV f != 0)=true:=by simpa using hc0
 have al:=h! hc0
 clear hc0
 go_wp2
 go_ret2
 exact ⟨0,eV f,rfl,(fun _=>⟨rfl,rfl⟩),(fun h=>absurd h al.out),HW.out⟩
theorem pU {w:World} {u v:Value} {xs ys:List Int} (hu:Ints w u xs) (hv:Ints w v ys):Calls Tryz.prog 81 #[u,v] w fun e w'=>e = .returned (.bool (decide (xs=ys)))/\Below w.heap.size w w':=by
 obtain ⟨a1,c1,b1,o1,rfl,ag,hm1,aa,hx⟩:=hu.parts
 obtain ⟨a2,c2,b2,o2,rfl,al,hm2,ac,hy⟩:=hv.parts
 obtain ⟨n1,ae⟩ : ∃ n,n=xs.length:=⟨_,rfl⟩
 obtain ⟨n2,ab⟩ : ∃ n,n=ys.length:=⟨_,rfl⟩
 rw [<-ae] at ag aa hx ⊢
 rw [<-ab] at al ac hy ⊢
 have G1:=h! ae
 have G2:=h! ab
 have ap:=h! aa
 have am:=h! ac
 have HX:=h! hx
 have HY:=h! hy
 have HW:=h! (Below.refl w.heap.size w)
 clear hu hv ae ab aa ac hx hy
 by_cases hne:n1=n2
 ·subst hne
  go_enter Tryz.func81,Tryz.ntmps81
  go_wp2_with fail
  go_loopw [13] (fun i wr => ∃ k:Nat,k <= n1/\i = .int .i64 k/\(∀ j,j < k -> xs.getD j 0=ys.getD j 0)/\Below w.heap.size w wr) (fun i _=>n1 - (intOf i).toNat)
  case atStart=>exact ⟨0,aH _,rfl,fun j h=>absurd h (eC _),HW.out⟩
  obtain ⟨k,hk,rfl,hs,hW⟩:=hrel
  have HS:=h! hs
  replace HW:=h! hW
  clear hs hW
  generalize wr=w3 at *
  by_cases hlt:k < n1
  ·obtain ⟨rfl,ah⟩:=ap.out (by omega)
   obtain ⟨rfl,ao⟩:=am.out (by omega)
   have aj:=(HW.out.cell (p:=⟨b1,o1+k,none⟩) ah).trans (HX.out k hlt)
   have ai:=(HW.out.cell (p:=⟨b2,o2+k,none⟩) ao).trans (HY.out k hlt)
   obtain ⟨p,hp⟩ : ∃ p,p=xs.getD k 0:=⟨_,rfl⟩
   obtain ⟨q,hq⟩ : ∃ q,q=ys.getD k 0:=⟨_,rfl⟩
   rw [<-hp] at aj
   rw [<-hq] at ai
   have H3:=h! hp
   have H4:=h! hq
   clear hp hq
   cases hpq:(p != q)
   ·have ad:=h! hpq
    go_upto_region 6 with (fail)
    go_quiet (fail)
    go_wp2
    go_roundw
    case rel =>
     refine ⟨k+1,hlt,by go_num, ?_,eT HW.out _⟩
     intro j hj
     by_cases e:j=k
     ·subst e
      have:=ad.out
      simp at this
      rw [<-H3.out, <-H4.out,this]
     exact HS.out j (by omega)
    simp [intOf];omega
   have ad:=h! hpq
   go_upto_region 6 with (fail)
   go_quiet (fail)
   go_wp2
   go_ret
   exact ⟨gQ (decide_eq_false (fun e=>by
    have:=ad.out
    simp at this
    exact this (by rw [H3.out,H4.out,e]))).symm,eT HW.out _⟩
  have af:k=n1:=by omega
  have ak:Hid (xs=ys):=h! (yT (by rw [<-G1.out, <-G2.out]) (by rw [<-G1.out, <-af];exact HS.out))
  clear af
  go_wp2
  go_ret
  exact ⟨gQ (decide_eq_true ak.out).symm,HW.out⟩
 have hq:((n1:Int) != (n2:Int))=true:=by simp;omega
 have an:=h! hne
 clear hne
 go_enter Tryz.func81,Tryz.ntmps81
 go_wp2
 go_ret
 exact ⟨gQ (decide_eq_false (fun e=>an.out (by rw [G1.out,G2.out,e]))).symm,HW.out⟩
theorem aD8 {w:World} {v:Value} {xs:List Int} {k:FuncId} {cap:Array Value} (eg:Enters Tryz.prog k) (p:Int -> Bool) (hv:Ints w v xs)
  (hstep:∀ (W:World) (x:Int),x ∈ xs -> Below w.heap.size w W -> Calls Tryz.prog k (#[.int .i64 x] ++ cap) W fun e W'=>e = .returned (.bool (p x))/\Below W.heap.size W W') :
  Calls Tryz.prog 166 #[v,.func (.func k) #[] cap] w fun e w' => ∃ r:Int,e = .returned (.int .i64 r)/\decide (0 <= r)=xs.any p/\Below w.heap.size w w':=by
 obtain ⟨a1,c1,b1,o1,rfl,ag,hm1,aa,hx⟩:=hv.parts
 obtain ⟨n1,ac⟩ : ∃ n,n=xs.length:=⟨_,rfl⟩
 rw [<-ac] at ag aa hx ⊢
 have G1:=h! ac
 have am:=h! aa
 have HX:=h! hx
 have HW:=h! (Below.refl w.heap.size w)
 have ak:=h! hstep
 clear hv ac aa hx hstep
 have eg1:∀ (args:Array Value) (w:World),(callFunc k args).run Tryz.prog w = .ok (.enter k args) w:=eg
 go_enter Tryz.func166,Tryz.ntmps166
 go_wp2_with fail
 go_loopw [8] (fun i wr => ∃ j:Nat,j <= n1/\i = .int .i64 j/\(xs.take j).any p=false/\Below w.heap.size w wr) (fun i _=>n1 - (intOf i).toNat)
 case atStart=>exact ⟨0,aH _,rfl,rfl,HW.out⟩
 case round =>
  obtain ⟨j,hj,rfl,hs,hW⟩:=hrel
  have HS:=h! hs
  replace HW:=h! hW
  clear hs hW
  generalize wr=w3 at *
  by_cases hlt:j < n1
  ·obtain ⟨rfl,aj⟩:=am.out (by omega)
   have al:=(HW.out.cell (p:=⟨b1,o1+j,none⟩) aj).trans (HX.out j hlt)
   obtain ⟨x,hx⟩ : ∃ x,x=xs.getD j 0:=⟨_,rfl⟩
   rw [<-hx] at al
   have ad:xs[j]? = some x:=by rw [hx];exact fI xs j (by have:=G1.out;omega)
   have af:=h! (aG ad)
   have ah:=h! (eS xs j x ad)
   clear hx ad
   obtain ⟨c,hc⟩ : ∃ c,c=p x:=⟨_,rfl⟩
   have HC:=h! hc
   have HCT:=h! (ak.out w3 x af.out HW.out)
   rw [<-hc] at HCT
   clear hc
   cases c
   ·go_wp2_with (go_at_fn k;refine HCT.out.mono ?_;rintro e w4 ⟨rfl,hb4⟩;have HB4:=h! hb4;clear hb4)
    have ae:=h! (HW.out.trans (HB4.out.mono HW.out.size))
    have ai:Hid ((xs.take (j+1)).any p=false):=h! (by rw [ah.out,List.any_append,HS.out];simp [<-HC.out])
    go_roundw
    case rel=>exact ⟨j+1,hlt,by go_num,ai.out,ae.out⟩
    simp [intOf];omega
   go_wp2_with (go_at_fn k;refine HCT.out.mono ?_;rintro e w4 ⟨rfl,hb4⟩;have HB4:=h! hb4;clear hb4)
   have ae:=h! (HW.out.trans (HB4.out.mono HW.out.size))
   have ab:Hid (xs.any p=true):=h! (by rw [eM];exact ⟨x,af.out,HC.out.symm⟩)
   go_ret
   exact ⟨j,rfl,by rw [ab.out];simp,ae.out⟩
  have ab:Hid (xs.any p=false):=h! (by have h9:=HS.out;rw [aJ (by have:=G1.out;omega)] at h9;exact h9)
  go_wp2
  go_ret
  exact ⟨-1,rfl,by rw [ab.out];simp,HW.out⟩
theorem aCE {w:World} {v:Value} {xs:List Int} {k:FuncId} {cap:Array Value} (eg:Enters Tryz.prog k) (p:Int -> Bool) (hv:Ints w v xs)
  (hstep:∀ (W:World) (x:Int),x ∈ xs -> Below w.heap.size w W -> Calls Tryz.prog k (#[.int .i64 x] ++ cap) W fun e W'=>e = .returned (.bool (p x))/\Below W.heap.size W W') :
  Calls Tryz.prog 105 #[v,.func (.func k) #[] cap] w fun e w'=>e = .returned (.bool (xs.any p))/\Below w.heap.size w w':=by
 have HC:=h! (aD8 eg p hv hstep)
 clear hv hstep
 go_enter Tryz.func105,Tryz.ntmps105
 go_wp2_with fail
 refine HC.out.mono ?_
 rintro e w2 ⟨r,rfl,hr,hb⟩
 have HR:=h! hr
 have HB:=h! hb
 clear hr hb
 go_wp2
 go_ret
 exact ⟨gQ HR.out,HB.out⟩
end Go.Proofs.YtagabiidbbhhmaaGreat
