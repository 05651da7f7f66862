/- Part 39. -/
import Derived.Test.YtagabiidbbhhmaaGreatER38
import Derived.Test.YtagabiidbbhhmaaGreatER35
namespace Go.Proofs.YtagabiidbbhhmaaGreat
set_option maxHeartbeats 25600000
set_option linter.all false
open Go.RowKit
private theorem gA.alloc {w0 W:World} (h:gA w0 W) (o:Obj):gA w0 (W.alloc o):=h.later ((Below.refl _ _).alloc (aB _) o)
def zF (f:FuncD) (w:World) (e:Ending) (w' : World):Prop :=
 ∃ b g:Int,e = .returned (.tuple #[.int .i64 b,.int .i64 g])/\(eZ f ≠ 0 -> b=0/\g=eZ f)/\(eZ f=0 -> gY f b g)/\Below w.heap.size w w'
theorem aFG {f:FuncD} {u:UseD} {d k:Int} (h:((entF f).find? fun e=>e.1 == u.id)=some (u.id,d,k)):iA f u ↔ ((u.pos < 0/\kJ f d.toNat u.src.toNat) \/ (¬ u.pos < 0/\kT f d k u.blk u.pos)) :=
 ⟨fun ⟨d2,k2,h2,h3⟩=>by rw [h] at h2;cases h2;exact h3,fun h3=>⟨d,k,h,h3⟩⟩
set_option maxRecDepth 100000 in
theorem zG {w:World} {v:Value} {f:FuncD} (hv:fU w v f):Calls Tryz.prog 38 #[v] w (zF f w):=by
 have HV:=h! hv
 obtain ⟨ap,cp,ab,cb,rfl,hp,ha,hc,hB⟩:=hv.form
 obtain ⟨a2,c2,bb,bo,ep,ej,hbm,en,ca,da⟩:=eY hB
 cases ep
 have fb:Hid (eZ f=0 -> 1 <= f.blocks.length/\f.blocks.length <= 512):=h! (fun h=>iE (fC h).1)
 obtain ⟨np,cv⟩ : ∃ np,np=f.params.length:=⟨_,rfl⟩
 obtain ⟨ar,cw⟩ : ∃ ar,ar=f.arrays:=⟨_,rfl⟩
 obtain ⟨ce,bx⟩ : ∃ ce,ce=f.cells:=⟨_,rfl⟩
 obtain ⟨nb,bh⟩ : ∃ nb,nb=f.blocks.length:=⟨_,rfl⟩
 rw [<-bh, <-cv, <-cw, <-bx] at HV
 rw [<-bh] at ej ca en
 rw [<-bh, <-cv, <-cw, <-bx]
 have ag:=h! bh
 have ff:=h! ca
 have fq:=h! da
 clear hp ha hc hB hv da cv bh ca cw bx
 go_enter Tryz.func38,Tryz.ntmps38
 go_upto_region 1 with (fail)
 have ay:=(Below.refl w.heap.size w).alloc (aB _) (.cells #[.slice ap np cp,.int .i64 ar,.int .i64 ce,.slice ab nb cb] 25)
 have HW:=h! ay
 clear ay
 have B1:=h! (Box.new w #[.slice ap np cp,.int .i64 ar,.int .i64 ce,.slice ab nb cb] 25)
 generalize w.alloc (.cells #[.slice ap np cp,.int .i64 ar,.int .i64 ce,.slice ab nb cb] 25)=wv at *
 obtain ⟨aa,ad,ac⟩:=B1.out
 go_wp2_with fail
 refine (aC0 (HV.out.below HW.out)).mono ?_
 rintro e w1 ⟨rfl,hb⟩
 clear aa ad ac
 replace B1:=h! (B1.out.later hb)
 replace HW:=h! (HW.out.trans (hb.mono HW.out.size))
 clear hb
 obtain ⟨aa,ad,ac⟩:=B1.out
 by_cases hc0:eZ f=0
 ·have am:=h! hc0
  obtain ⟨ea,ch⟩:=fb.out hc0
  rw [<-ag.out] at ea ch
  have fc:(eZ f != 0)=false:=by simpa using hc0
  have HF:=h! (fC hc0).1
  clear hc0
  obtain ⟨rfl,di⟩:=ff.out (by omega)
  go_wp2_with fail
  refine (nP (gone := -1) (HV.out.below HW.out) HF.out).mono ?_
  rintro e w2 ⟨sv,S,rfl,hS,dw,hb⟩
  have HS:=h! hS
  obtain ⟨sa,sc,sb,so,dp,ex,hsm,bv,dq⟩:=dw.parts
  have cq:S.length=nb:=by rw [hS.1,ag.out]
  rw [cq] at dp ex bv
  subst dp
  obtain ⟨rfl,cy⟩:=bv (by omega)
  obtain ⟨W2,bq⟩ : ∃ W2,W2=w2:=⟨_,rfl⟩
  have fj:Hid (∀ (j:Nat) (x:Bool),S[j]? = some x -> W2.cell? ⟨sb,so+j,none⟩=some (.bool x)):=h! (by rw [bq];exact dq)
  have ft:=h! cq
  rw [<-bq] at cy
  have dc:Hid (gA W2 w2):=h! (by rw [bq];exact Below.refl _ _)
  clear hS dw dq bv cq bq
  clear aa ad ac
  replace B1:=h! (B1.out.later hb)
  replace HW:=h! (HW.out.trans (hb.mono HW.out.size))
  clear hb
  obtain ⟨aa,ad,ac⟩:=B1.out
  go_wp2_with fail
  go_loopw [6] (fun i wr => ∃ c:Nat,c <= nb/\i = .int .i64 c/\(∀ d,d < c -> Way (toB f) (-1) d)/\wr=w2) (fun i _=>nb - (intOf i).toNat)
  case atStart=>exact ⟨0,aJ _,rfl,fun d h=>absurd h (eS _),rfl⟩
  obtain ⟨c,hc,rfl,af,he⟩:=hrel
  subst he
  have aw:=h! af
  clear af
  by_cases hlt:c < nb
  ·obtain ⟨x,hx⟩ : ∃ x,S[c]? = some x:=⟨_,aC (by rw [ft.out];exact hlt)⟩
   have d1:=(Below.cell dc.out (p:=⟨sb,so+c,none⟩) cy).trans (fj.out c x hx)
   have hw:=HS.out.2 c
   rw [hx] at hw
   have cz:=h! hw
   clear hx hw
   cases x
   ·have ak:Hid (gY f c 4):=h! (.inl ⟨c,by rw [<-ag.out];exact hlt,(fun h=>by have:=cz.out.2 h;cases this),aw.out,rfl,rfl⟩)
    go_wp2
    go_ret2
    exact ⟨_,_,rfl,(fun h=>absurd am.out h),(fun _=>ak.out),HW.out⟩
   have al:Hid (∀ d,d < c+1 -> Way (toB f) (-1) d):=h! (fun d hd=>by
    by_cases e:d=c
    ·subst e;exact cz.out.1 rfl
    exact aw.out d (by omega))
   go_wp2
   go_roundw
   case rel=>exact ⟨c+1,hlt,by go_num,al.out,by first | rfl | trivial⟩
   simp [intOf];omega
  have aj:Hid (∀ d,d < f.blocks.length -> Way (toB f) (-1) d):=h! (fun d hd=>aw.out d (by rw [<-ag.out] at hd;omega))
  go_wp2_with fail
  refine (aB0 (HV.out.below HW.out) HF.out).mono ?_
  rintro e w3 ⟨pv,rfl,dv,hb⟩
  obtain ⟨es,pa,pc,pb,po,dh,ev,hpm,fm,ci,bl,bm⟩:=dv.parts
  have bc:(gZ f).length=nb:=by unfold gZ;rw [iL,ag.out]
  rw [bc] at dh ev ci fm bl bm
  obtain ⟨rfl,dl⟩:=ci (by omega)
  subst dh
  obtain ⟨W3,bO⟩ : ∃ W3,W3=w3:=⟨_,rfl⟩
  rw [<-bO] at bl bm dl
  have dz:=h! bl
  have em:=h! bm
  have ai:Hid (gA W3 w3):=h! (by rw [bO];exact Below.refl _ _)
  clear bl bm ci bc dv bO dc
  clear aa ad ac
  replace B1:=h! (B1.out.later hb)
  replace HW:=h! (HW.out.trans (hb.mono HW.out.size))
  clear hb
  obtain ⟨aa,ad,ac⟩:=B1.out
  go_wp2_with fail
  go_loopw [8] (fun i wr => ∃ c:Nat,c <= nb/\i = .int .i64 c/\(∀ (d:Nat) (y:BlockD),d < c -> f.blocks[d]? = some y -> y.phis.all (gG (natI (gJ f f.blocks.length 0 d)))=true)/\gA W3 wr/\Below w.heap.size w wr/\Box wr w.heap.size #[.slice ap np cp,.int .i64 ar,.int .i64 ce,.slice (some ⟨bb,bo,none⟩) nb cb]) (fun i _=>nb - (intOf i).toNat)
  case atStart=>exact ⟨0,aJ _,rfl,fun d y h=>absurd h (eS _),ai.out,HW.out,B1.out⟩
  obtain ⟨c,hc,rfl,af,hS,hW,h1⟩:=hrel
  clear aa ad ac
  have cj:=h! af
  replace ai:=h! hS
  replace HW:=h! hW
  replace B1:=h! h1
  clear af hS hW h1
  generalize wr=w4 at *
  obtain ⟨aa,ad,ac⟩:=B1.out
  by_cases hlt:c < nb
  ·obtain ⟨x,cc⟩ : ∃ x,f.blocks[c]? = some x:=⟨_,aC (by have:=ag.out;omega)⟩
   obtain ⟨ee,eb,fa,fi,eh,fk,hC⟩:=fq.out c x cc
   have dd:=h! cc
   have HC:=h! hC
   obtain ⟨ps,bs⟩ : ∃ ps,ps=gJ f f.blocks.length 0 c:=⟨_,rfl⟩
   have dm:(gZ f).getD c []=natI ps:=by
    rw [bs,aK]
    unfold gZ
    rw [kB (by rw [<-ag.out];exact hlt)]
    rfl
   have cd:Ints W3 (es.getD c undef) (natI ps):=by
    have h9:=em.out c hlt
    rwa [dm] at h9
   have CP:=h! ((Below.cell ai.out (p:=⟨pb,po+c,none⟩) dl).trans (dz.out c hlt))
   have dg:=World.block_lt_of_cell? w4 _ CP.out
   have ds:=h! cd
   have dj:=h! bs
   obtain ⟨qa,qc,cm⟩:=cd.form
   obtain ⟨ql,dr⟩ : ∃ ql,ql=(natI ps).length:=⟨_,rfl⟩
   rw [<-dr] at cm
   rw [cm] at CP ds
   obtain ⟨k,hk⟩ : ∃ k,k=x.phis.all (gG (natI ps)):=⟨_,rfl⟩
   have HK:=h! hk
   have fg:Hid (∀ wg,Below w4.heap.size w4 wg -> Calls Tryz.prog 76 #[.agg #[.slice ee x.phis.length fi,.slice eb x.code.length eh,.int .i64 x.term.op,.int .i64 x.term.val,.slice fa x.term.to.length fk,.int .i64 x.term.n],.slice qa ql qc] wg fun e w'=>e = .returned (.bool k)/\Below wg.heap.size wg w'):=h! (fun wg hbg=>by
    rw [hk]
    exact aED (HC.out.phis.below PhiR.lasting (HW.out.trans (hbg.mono HW.out.size))) (ds.out.below (gA.later ai.out hbg)))
   clear cc hC bs dm cd cm dr hk
   go_upto_region 14 with (fail)
   refine wp_region_grow 11 (fun kz=>match kz with | 9=>.const (.bool k) | _=>.plain) (by kernel_rfl) (by kernel_rfl) ?_ (fun ν => ?_)
   ·(intro k;(try dsimp only);split <;> first | exact True.intro | (intro u w1 w2 hu hb;exact hu.below hb))
   simp only [aO,aS,aP,aU]
   iterate 9 (refine Grow.val (v := ?_) rfl rfl (fun wg hbg hdg => ?_) ?_;rotate_left;(focus ((obtain ⟨ef,eg,ec⟩:=B1.out.later hbg);(obtain ⟨k0,k1,k2,k3,k4,k5, -, -, -, -, -, -⟩:=HC.out.below (HW.out.trans (hbg.mono HW.out.size)) di;have dy:=(hbg.cell (p:=⟨pb,po+c,none⟩) dg).trans CP.out);clear hbg hdg;first | (go_simp;done) | (go_simp;with_reducible rfl)));simp only [Act.put,aA,aD,aE])
   refine Grow.call (f := ?_) (args := ?_) rfl (fun wg => ?_) (fun wg hbg hdg => ?_) ?_
   rotate_left 2
   focus (first | (go_simp;done) | (go_simp;refine And.intro ?_ ?_ <;> with_reducible rfl) | (go_simp;with_reducible rfl))
   focus exact Calls.mono (fg.out wg hbg) (fun e w2 ⟨he,hb2⟩=>⟨_,he,rfl,hb2⟩)
   simp only [Act.put,Known.val,aA,aD,aE]
   refine Grow.val (v := ?_) rfl rfl (fun wg hbg hdg => ?_) ?_
   rotate_left
   focus ((obtain ⟨ef,eg,ec⟩:=B1.out.later hbg);(obtain ⟨k0,k1,k2,k3,k4,k5, -, -, -, -, -, -⟩:=HC.out.below (HW.out.trans (hbg.mono HW.out.size)) di;have dy:=(hbg.cell (p:=⟨pb,po+c,none⟩) dg).trans CP.out);clear hbg hdg;first | (go_simp;done) | (go_simp;with_reducible rfl))
   simp only [Act.put,aA,aD,aE]
   intro wg hb hf ey
   clear ey
   clear aa ad ac
   replace B1:=h! (B1.out.later hb)
   replace ai:=h! (ai.out.later hb)
   replace HW:=h! (HW.out.trans (hb.mono HW.out.size))
   clear hb
   obtain ⟨aa,ad,ac⟩:=B1.out
   clear hf
   cases k
   ·have ak:Hid (gY f c 5):=h! (.inr ⟨aj.out,.inl ⟨c,x,dd.out,by rw [<-dj.out];exact HK.out.symm,cj.out,rfl,rfl⟩⟩)
    go_wp2
    go_ret2
    exact ⟨_,_,rfl,(fun h=>absurd am.out h),(fun _=>ak.out),HW.out⟩
   have al:Hid (∀ (d:Nat) (y:BlockD),d < c+1 -> f.blocks[d]? = some y -> y.phis.all (gG (natI (gJ f f.blocks.length 0 d)))=true):=h! (fun d y hd hy=>by
    by_cases e:d=c
    ·subst e
     rw [dd.out] at hy
     cases hy
     rw [<-dj.out];exact HK.out.symm
    exact cj.out d y (by omega) hy)
   go_wp2
   go_roundw
   case rel=>exact ⟨c+1,hlt,by go_num,al.out,ai.out,HW.out,B1.out⟩
   simp [intOf];omega
  have br:Hid (∀ (d:Nat) (y:BlockD),f.blocks[d]? = some y -> y.phis.all (gG (natI (gJ f f.blocks.length 0 d)))=true):=h! (fun d y hy=>cj.out d y (by have:=(aF.1 hy).1;rw [<-ag.out] at this;omega) hy)
  go_wp2_with fail
  refine (aEC (HV.out.below HW.out) HF.out).mono ?_
  rintro e w5 ⟨ov,rfl,cB,hb⟩
  have fo:=h! cB
  clear cB
  clear aa ad ac
  replace B1:=h! (B1.out.later hb)
  replace ai:=h! (ai.out.later hb)
  replace HW:=h! (HW.out.trans (hb.mono HW.out.size))
  clear hb
  obtain ⟨aa,ad,ac⟩:=B1.out
  go_wp2_with fail
  refine (aA6 (HV.out.below HW.out) (jW HF.out)).mono ?_
  rintro e w6 ⟨uv,rfl,de,hb⟩
  obtain ⟨oc,ob,oo,rfl,ek,hom,cx,ah⟩:=(fo.out.below hb).parts (by rw [<-ag.out];omega)
  rw [<-ag.out] at ek ah
  have fe:=aAA (jW HF.out)
  have dt:Row w6 uv (uxF f).length 5 (jD (uxF f)):=Row.of_own de (by omega)
  obtain ⟨xa,xc,xb,xo,rfl,fp,hxm,cf,cs⟩:=dt.parts
  obtain ⟨m,hm⟩ : ∃ m,m=(uxF f).length:=⟨_,rfl⟩
  rw [<-hm] at fe fp ⊢
  obtain ⟨W6,cn⟩ : ∃ W6,W6=w6:=⟨_,rfl⟩
  rw [<-cn] at ah cx cf cs
  have ba:=h! ah
  have ez:=h! cf
  have bi:=h! cs
  have HM:=h! hm
  have ae:Hid (gA W6 w6):=h! (by rw [cn];exact Below.refl _ _)
  rw [<-ag.out]
  clear aa ad ac
  replace B1:=h! (B1.out.later hb)
  replace ai:=h! (ai.out.later hb)
  replace HW:=h! (HW.out.trans (hb.mono HW.out.size))
  clear hb
  obtain ⟨aa,ad,ac⟩:=B1.out
  clear ah cf cs de dt cn hm
  replace ai:=ae
  go_wp2_with fail
  go_loopw [11] (fun i wr => ∃ c:Nat,c <= m/\i = .int .i64 c/\(∀ v ∈ (uxF f).take c,iA f v)/\gA W6 wr/\Below w.heap.size w wr/\Box wr w.heap.size #[.slice ap np cp,.int .i64 ar,.int .i64 ce,.slice (some ⟨bb,bo,none⟩) nb cb]) (fun i _=>m - (intOf i).toNat)
  case atStart=>exact ⟨0,aJ _,rfl,by simp,ae.out,HW.out,B1.out⟩
  obtain ⟨c,hc,rfl,af,hS,hW,h1⟩:=hrel
  clear aa ad ac
  have ax:=h! af
  clear ai
  replace ae:=h! hS
  replace HW:=h! hW
  replace B1:=h! h1
  clear af hS hW h1
  generalize wr=w7 at *
  obtain ⟨aa,ad,ac⟩:=B1.out
  by_cases hlt:c < m
  ·obtain ⟨u,hu⟩ : ∃ u,(uxF f)[c]? = some u:=⟨_,aC (by have:=HM.out;omega)⟩
   obtain ⟨x0,x1,x2,x3,x4⟩:=sM _ _ _ hu
   obtain ⟨rfl,bd⟩:=ez.out (by have:=(aF.1 x0).1;omega)
   have e0:=(Below.cell ae.out (p:=⟨xb,xo+c * 5,none⟩) bd).trans (bi.out _ _ x0)
   have e1:=(Below.cell ae.out (p:=⟨xb,xo+(c * 5+1),none⟩) bd).trans (bi.out _ _ x1)
   have e2:=(Below.cell ae.out (p:=⟨xb,xo+(c * 5+2),none⟩) bd).trans (bi.out _ _ x2)
   have e3:=(Below.cell ae.out (p:=⟨xb,xo+(c * 5+3),none⟩) bd).trans (bi.out _ _ x3)
   have e4:=(Below.cell ae.out (p:=⟨xb,xo+(c * 5+4),none⟩) bd).trans (bi.out _ _ x4)
   rw [<-Nat.add_assoc] at e1 e2 e3 e4
   have ct:=aG hu
   obtain ⟨d,k,cG,fh,et⟩:=nA am.out ct
   obtain ⟨eo,fl,cF⟩:=sS HF.out ct
   obtain ⟨dn,rfl⟩ : ∃ dn:Nat,d=(dn:Int):=⟨d.toNat,by omega⟩
   obtain ⟨bn,cl⟩ : ∃ bn:Nat,u.blk=(bn:Int):=⟨u.blk.toNat,by omega⟩
   have ei:dn < nb:=by have:=ag.out;omega
   have bw:bn < nb:=by have:=ag.out;omega
   obtain ⟨ra,be,bk,az⟩:=ba.out dn ei
   obtain ⟨y,db,cL⟩:=az bn bw
   have bt:=h! cG
   have HU:=h! hu
   have ck:=h! (eT _ _ _ hu)
   have bp:=h! cl
   have dk:=h! be
   have ed:=h! db
   have dx:=h! cL
   have er:=h! az
   have fd:=h! cF
   rw [cl] at e2
   clear hu x0 x1 x2 x3 x4 ct cG fh et eo fl cF cl be az db cL
   go_upto_region 22 with (fail)
   have bg:w7.heap.size ≠ w.heap.size:=fun e=>by have:=aa;omega
   have nB1BU:w.heap.size ≠ w7.heap.size:=fun e=>bg e.symm
   clear aa ad ac
   have ay:=(Below.refl w7.heap.size w7).alloc (aB _) (.cells #[.int .i64 u.id,.int .i64 u.typ,.int .i64 bn,.int .i64 u.pos,.int .i64 u.src] 40)
   replace B1:=h! (B1.out.later ay)
   replace ae:=h! (ae.out.later ay)
   replace HW:=h! (HW.out.trans (ay.mono HW.out.size))
   clear ay
   have BU:=h! (Box.new w7 #[.int .i64 u.id,.int .i64 u.typ,.int .i64 bn,.int .i64 u.pos,.int .i64 u.src] 40)
   generalize w7.alloc (.cells #[.int .i64 u.id,.int .i64 u.typ,.int .i64 bn,.int .i64 u.pos,.int .i64 u.src] 40)=w8 at *
   obtain ⟨aa,ad,ac⟩:=B1.out
   obtain ⟨ao,an,aq⟩:=BU.out
   clear e0 e1 e2 e3 e4
   go_wp2_with fail
   refine (aFR (id:=u.id) (HV.out.below HW.out)).mono ?_
   rintro e w9 ⟨b9,k9,fs,rfl,bj,hb⟩
   have bf:b9=(dn:Int)/\k9=k/\fs=true:=by
    rcases bj with ⟨e,he,h1,h2,h3⟩ | ⟨he,_⟩
    ·rw [bt.out] at he
     cases he
     exact ⟨h1,h2,h3⟩
    rw [bt.out] at he;cases he
   obtain ⟨rfl,rfl,rfl⟩:=bf
   clear bj
   clear aa ad ac ao an aq
   replace B1:=h! (B1.out.later hb)
   replace BU:=h! (BU.out.later hb)
   replace ae:=h! (ae.out.later hb)
   replace HW:=h! (HW.out.trans (hb.mono HW.out.size))
   clear hb
   obtain ⟨aa,ad,ac⟩:=B1.out
   obtain ⟨ao,an,aq⟩:=BU.out
   have d1:=(Below.cell ae.out (p:=⟨ob,oo+dn,none⟩) cx).trans dk.out
   have d2:=(Below.cell ae.out (p:=⟨ra,bn,none⟩) bk).trans ed.out
   go_upto_region 23 with (fail)
   go_quiet (fail)
   clear aa ad ac ao an aq
   clear d1 d2
   replace HW:=h! (eW HW.out nq)
   replace ae:Hid (gA W6 (w9.drewN nq)):=h! (eW ae.out nq)
   replace B1:=h! (B1.out.drewN nq)
   replace BU:=h! (BU.out.drewN nq)
   generalize w9.drewN nq=wq at *
   obtain ⟨aa,ad,ac⟩:=B1.out
   obtain ⟨ao,an,aq⟩:=BU.out
   have bz:Hid (iA f u ↔ ((u.pos < 0/\kJ f dn u.src.toNat) \/ (¬ u.pos < 0/\kT f dn k9 bn u.pos))):=h! (by rw [aFG bt.out,bp.out];rfl)
   by_cases hpos:u.pos < 0
   ·obtain ⟨s0,s1⟩:=fd.out hpos
    obtain ⟨sn,cg⟩ : ∃ sn:Nat,u.src=(sn:Int):=⟨u.src.toNat,by omega⟩
    have cr:sn < nb:=by have:=ag.out;omega
    obtain ⟨z,cM,df⟩:=er.out sn cr
    have HZ:Hid (z=true ↔ iA f u):=h! (by
     rw [df,bz.out,cg,dO]
     exact ⟨fun h=>.inl ⟨hpos,h⟩,fun h=>h.elim (fun h=>h.2) (fun h=>absurd hpos h.1)⟩)
    have d1:=(Below.cell ae.out (p:=⟨ob,oo+dn,none⟩) cx).trans dk.out
    have d2:=(Below.cell ae.out (p:=⟨ra,sn,none⟩) bk).trans cM
    rw [cg] at BU
    clear ao an aq
    obtain ⟨ao,an,aq⟩:=BU.out
    clear cM df s0 s1 cg
    go_upto_region 25 with (fail)
    go_quiet (fail)
    clear aa ad ac ao an aq
    clear d1 d2
    replace HW:=h! (eW HW.out nq)
    replace ae:Hid (gA W6 (wq.drewN nq)):=h! (eW ae.out nq)
    replace B1:=h! (B1.out.drewN nq)
    replace BU:=h! (BU.out.drewN nq)
    generalize wq.drewN nq=wz at *
    obtain ⟨aa,ad,ac⟩:=B1.out
    obtain ⟨ao,an,aq⟩:=BU.out
    cases z
    ·have ak:Hid (gY f bn 6):=h! (.inr ⟨aj.out,.inr ⟨br.out,.inl ⟨c,u,HU.out,(fun h=>by have:=HZ.out.2 h;cases this),ax.out,bp.out.symm,rfl⟩⟩⟩)
     go_wp2
     go_ret2
     exact ⟨_,_,rfl,(fun h=>absurd am.out h),(fun _=>ak.out),HW.out⟩
    have al:Hid (∀ v ∈ (uxF f).take (c+1),iA f v):=h! (by
     rw [ck.out]
     intro v hv
     rcases aM.1 hv with hv | hv
     ·exact ax.out v hv
     simp at hv;subst hv;exact HZ.out.1 rfl)
    go_wp2
    go_roundw
    case rel=>exact ⟨c+1,hlt,by go_num,al.out,ae.out,HW.out,B1.out⟩
    simp [intOf];omega
   by_cases hdb:dn=bn
   ·have hq:((dn:Int) == (bn:Int))=true:=by simp [hdb]
    obtain ⟨z,hz⟩ : ∃ z,z=decide (k9 < u.pos):=⟨_,rfl⟩
    have HZ:Hid (z=true ↔ iA f u):=h! (by
     rw [hz,decide_eq_true_iff,bz.out]
     unfold kT
     exact ⟨fun h=>.inr ⟨hpos,.inl ⟨by omega,h⟩⟩,fun h=>h.elim (fun h=>absurd h.1 hpos) (fun h=>h.2.elim (fun h=>h.2) (fun h=>absurd (by omega) h.1))⟩)
    have ew:=h! hdb
    clear hdb
    by_cases hkp:k9 < u.pos
    ·have co:z=true:=by rw [hz];exact decide_eq_true hkp
     subst co
     clear hz
     have al:Hid (∀ v ∈ (uxF f).take (c+1),iA f v):=h! (by
      rw [ck.out]
      intro v hv
      rcases aM.1 hv with hv | hv
      ·exact ax.out v hv
      simp at hv;subst hv;exact HZ.out.1 rfl)
     go_wp2
     go_roundw
     case rel=>exact ⟨c+1,hlt,by go_num,al.out,ae.out,HW.out,B1.out⟩
     simp [intOf];omega
    have co:z=false:=by rw [hz];exact decide_eq_false hkp
    subst co
    clear hz
    have ak:Hid (gY f bn 6):=h! (.inr ⟨aj.out,.inr ⟨br.out,.inl ⟨c,u,HU.out,(fun h=>by have:=HZ.out.2 h;cases this),ax.out,bp.out.symm,rfl⟩⟩⟩)
    go_wp2
    go_ret2
    exact ⟨_,_,rfl,(fun h=>absurd am.out h),(fun _=>ak.out),HW.out⟩
   have hq:((dn:Int) == (bn:Int))=false:=by simp;omega
   have HZ:Hid (y=true ↔ iA f u):=h! (by
    rw [dx.out,bz.out]
    unfold kT
    exact ⟨fun h=>.inr ⟨hpos,.inr ⟨by omega,by simpa using h⟩⟩,fun h=>h.elim (fun h=>absurd h.1 hpos) (fun h=>h.2.elim (fun h=>absurd h.1 (by omega)) (fun h=>by simpa using h.2))⟩)
   have ew:=h! hdb
   clear hdb
   cases y
   ·have ak:Hid (gY f bn 6):=h! (.inr ⟨aj.out,.inr ⟨br.out,.inl ⟨c,u,HU.out,(fun h=>by have:=HZ.out.2 h;cases this),ax.out,bp.out.symm,rfl⟩⟩⟩)
    go_wp2
    go_ret2
    exact ⟨_,_,rfl,(fun h=>absurd am.out h),(fun _=>ak.out),HW.out⟩
   have al:Hid (∀ v ∈ (uxF f).take (c+1),iA f v):=h! (by
    rw [ck.out]
    intro v hv
    rcases aM.1 hv with hv | hv
    ·exact ax.out v hv
    simp at hv;subst hv;exact HZ.out.1 rfl)
   go_wp2
   go_roundw
   case rel=>exact ⟨c+1,hlt,by go_num,al.out,ae.out,HW.out,B1.out⟩
   simp [intOf];omega
  have ak:Hid (gY f 0 0):=h! (.inr ⟨aj.out,.inr ⟨br.out,.inr ⟨by have h9:=ax.out;rw [aH (by have:=HM.out;omega)] at h9;exact h9,rfl,rfl⟩⟩⟩)
  go_wp2
  go_ret2
  exact ⟨_,_,rfl,(fun h=>absurd am.out h),(fun _=>ak.out),HW.out⟩
 have fc:(eZ f != 0)=true:=by simpa using hc0
 have am:=h! hc0
 clear hc0
 go_wp2
 go_ret2
 exact ⟨0,eZ f,rfl,(fun _=>⟨rfl,rfl⟩),(fun h=>absurd h am.out),HW.out⟩
theorem tL:Enters Tryz.prog 144:=enters_of Tryz.func144 (by kernel_rfl) rfl
def zH (f:FuncD) (d k b at_:Int) (w:World) (e:Ending) (w' : World):Prop := ∃ r:Bool,e = .returned (.bool r)/\(r=true ↔ ¬ kT f d k b at_)/\Below w.heap.size w w'
theorem aGN {f:FuncD} {w:World} {bs bt bg lg lcap bm:Nat} {g:Array Value} {pv ov lv A2:Value} {O:List Nat} {I:Nat -> Option Nat} (hS:StrM f w bs bt bg lg lcap bm g pv ov lv A2 O I) (hO:fO f O) (hD:DomI f O I) (hc:eZ f=0)
  {id d k b at_:Int} {b1 b2 b3:Nat} (he:((entF f).find? fun e=>e.1 == id)=some (id,d,k)) (hd:0 <= d/\d < (f.blocks.length:Int)) (hb:0 <= b/\b < (f.blocks.length:Int))
  (h1:Box w b1 #[.pointer (some ⟨bs,0,none⟩)]) (h2:Box w b2 #[.int .i64 b]) (h3:Box w b3 #[.int .i64 at_]) :
  Calls Tryz.prog 144 #[.int .i64 id,.pointer (some ⟨b1,0,none⟩),.pointer (some ⟨b2,0,none⟩),.pointer (some ⟨b3,0,none⟩)] w (zH f d k b at_ w):=by
 have HA:=h! (ahead hS hO hD hc (at_:=at_) he hd hb)
 obtain ⟨l1,c1,f1⟩:=h1
 obtain ⟨l2,c2,f2⟩:=h2
 obtain ⟨l3,c3,f3⟩:=h3
 clear hS hO hD hc he hd hb
 go_enter Tryz.func144,Tryz.ntmps144
 go_wp2_with fail
 refine HA.out.mono ?_
 rintro e w2 ⟨r,rfl,hr,hb⟩
 have HR:=h! hr
 have HB:=h! hb
 clear hr hb
 cases r
 ·go_wp2
  go_ret
  exact ⟨true,rfl,⟨(fun _ h=>by have:=HR.out.2 h;simp at this),(fun _=>rfl)⟩,HB.out⟩
 ·go_wp2
  go_ret
  exact ⟨false,rfl,⟨(fun h=>by cases h),(fun h=>absurd (HR.out.1 (by trivial)) h)⟩,HB.out⟩
end Go.Proofs.YtagabiidbbhhmaaGreat
