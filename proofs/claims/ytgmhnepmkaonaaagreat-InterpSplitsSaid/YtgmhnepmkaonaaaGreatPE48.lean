/- Part 48. -/
import Derived.Test.YtgmhnepmkaonaaaGreatPE47
import Derived.Test.YtgmhnepmkaonaaaGreatPE44
import Derived.Test.YtgmhnepmkaonaaaGreatPE39
import Derived.OwnWalk
import Derived.Test.YtgmhnepmkaonaaaGreatPE27
namespace Go.Proofs.YtgmhnepmkaonaaaGreat
set_option maxHeartbeats 25600000
set_option linter.all false
open Go.RowKit
private theorem iY.alloc {w0 W:World} (h:iY w0 W) (o:Obj):iY w0 (W.alloc o):=h.later ((Below.refl _ _).alloc (aB _) o)
def aGA (f:FuncD) (w:World) (e:Ending) (w' : World):Prop :=
 ∃ b g:Int,e = .returned (.tuple #[.int .i64 b,.int .i64 g])/\(d7 f ≠ 0 -> b=0/\g=d7 f)/\(d7 f=0 -> fM f b g)/\Below w.heap.size w w'
theorem aHY {f:FuncD} {u:UseD} {d k:Int} (h:((entF f).find? fun e=>e.1 == u.id)=some (u.id,d,k)):gL f u ↔ ((u.pos < 0/\jP f d.toNat u.src.toNat) \/ (¬ u.pos < 0/\kK f d k u.blk u.pos)) :=
 ⟨fun ⟨d2,k2,h2,h3⟩=>by rw [h] at h2;cases h2;exact h3,fun h3=>⟨d,k,h,h3⟩⟩
set_option maxRecDepth 100000 in
theorem aBX {w:World} {v:Value} {f:FuncD} (hv:gG w v f):Calls Tryz.prog 31 #[v] w (aGA f w):=by
 have HV:=h! hv
 obtain ⟨ap,cp,ab,cb,rfl,hp,ha,hc,hB⟩:=hv.form
 obtain ⟨a2,c2,bb,bo,hbe,hbc,hbm,hbl,hba,hbx⟩:=fA hB
 cases hbe
 have HBG:Hid (d7 f=0 -> 1 <= f.blocks.length/\f.blocks.length <= 512):=h! (fun h=>gU (eX h).1)
 obtain ⟨np,hnp⟩ : ∃ np,np=f.params.length:=⟨_,rfl⟩
 obtain ⟨ar,har⟩ : ∃ ar,ar=f.arrays:=⟨_,rfl⟩
 obtain ⟨ce,hce⟩ : ∃ ce,ce=f.cells:=⟨_,rfl⟩
 obtain ⟨nb,hnb⟩ : ∃ nb,nb=f.blocks.length:=⟨_,rfl⟩
 rw [<-hnb, <-hnp, <-har, <-hce] at HV
 rw [<-hnb] at hbc hba hbl
 rw [<-hnb, <-hnp, <-har, <-hce]
 have HNB:=h! hnb
 have HBA:=h! hba
 have HBX:=h! hbx
 clear hp ha hc hB hv hbx hnp hnb hba har hce
 go_enter Tryz.func31,Tryz.ntmps31
 go_upto_region 1 with (fail)
 have hA_:=(Below.refl w.heap.size w).alloc (aB _) (.cells #[.slice ap np cp,.int .i64 ar,.int .i64 ce,.slice ab nb cb] 25)
 have HW:=h! hA_
 clear hA_
 have B1:=h! (Box.new w #[.slice ap np cp,.int .i64 ar,.int .i64 ce,.slice ab nb cb] 25)
 generalize w.alloc (.cells #[.slice ap np cp,.int .i64 ar,.int .i64 ce,.slice ab nb cb] 25)=wv at *
 obtain ⟨lB1,cB1,fB1⟩:=B1.out
 go_wp2_with fail
 refine (aDQ (HV.out.below HW.out)).mono ?_
 rintro e w1 ⟨rfl,hb⟩
 clear lB1 cB1 fB1
 replace B1:=h! (B1.out.later hb)
 replace HW:=h! (HW.out.trans (hb.mono HW.out.size))
 clear hb
 obtain ⟨lB1,cB1,fB1⟩:=B1.out
 by_cases hc0:d7 f=0
 ·have HC0:=h! hc0
  obtain ⟨hn1,h512⟩:=HBG.out hc0
  rw [<-HNB.out] at hn1 h512
  have hc1:(d7 f != 0)=false:=by simpa using hc0
  have HF:=h! (eX hc0).1
  clear hc0
  obtain ⟨rfl,hbw⟩:=HBA.out (by omega)
  go_wp2_with fail
  refine (nR (gone := -1) (HV.out.below HW.out) HF.out).mono ?_
  rintro e w2 ⟨sv,S,rfl,hS,hBS,hb⟩
  have HS:=h! hS
  obtain ⟨sa,sc,sb,so,hse,hsc,hsm,hsa,hsx⟩:=hBS.parts
  have hSl:S.length=nb:=by rw [hS.1,HNB.out]
  rw [hSl] at hse hsc hsa
  subst hse
  obtain ⟨rfl,hsb⟩:=hsa (by omega)
  obtain ⟨W2,hW2⟩ : ∃ W2,W2=w2:=⟨_,rfl⟩
  have HSX:Hid (∀ (j:Nat) (x:Bool),S[j]? = some x -> W2.cell? ⟨sb,so+j,none⟩=some (.bool x)):=h! (by rw [hW2];exact hsx)
  have HSL:=h! hSl
  rw [<-hW2] at hsb
  have HS2:Hid (iY W2 w2):=h! (by rw [hW2];exact Below.refl _ _)
  clear hS hBS hsx hsa hSl hW2
  clear lB1 cB1 fB1
  replace B1:=h! (B1.out.later hb)
  replace HW:=h! (HW.out.trans (hb.mono HW.out.size))
  clear hb
  obtain ⟨lB1,cB1,fB1⟩:=B1.out
  go_wp2_with fail
  go_loopw [6] (fun i wr => ∃ c:Nat,c <= nb/\i = .int .i64 c/\(∀ d,d < c -> Way (toB f) (-1) d)/\wr=w2) (fun i _=>nb - (intOf i).toNat)
  case atStart=>exact ⟨0,aO _,rfl,fun d h=>absurd h (Nat.not_lt_zero _),rfl⟩
  obtain ⟨c,hc,rfl,hall,he⟩:=hrel
  subst he
  have HALL:=h! hall
  clear hall
  by_cases hlt:c < nb
  ·obtain ⟨x,hx⟩ : ∃ x,S[c]? = some x:=⟨_,aC (by rw [HSL.out];exact hlt)⟩
   have d1:=(Below.cell HS2.out (p:=⟨sb,so+c,none⟩) hsb).trans (HSX.out c x hx)
   have hw:=HS.out.2 c
   rw [hx] at hw
   have HWC:=h! hw
   clear hx hw
   cases x
   ·have HFA:Hid (fM f c 4):=h! (.inl ⟨c,by rw [<-HNB.out];exact hlt,(fun h=>by have:=HWC.out.2 h;cases this),HALL.out,rfl,rfl⟩)
    go_wp2
    go_ret2
    exact ⟨_,_,rfl,(fun h=>absurd HC0.out h),(fun _=>HFA.out),HW.out⟩
   have HNX:Hid (∀ d,d < c+1 -> Way (toB f) (-1) d):=h! (fun d hd=>by
    by_cases e:d=c
    ·subst e;exact HWC.out.1 rfl
    exact HALL.out d (by omega))
   go_wp2
   go_roundw
   case rel=>exact ⟨c+1,hlt,by go_num,HNX.out,by first | rfl | trivial⟩
   simp [intOf];omega
  have HWAY:Hid (∀ d,d < f.blocks.length -> Way (toB f) (-1) d):=h! (fun d hd=>HALL.out d (by rw [<-HNB.out] at hd;omega))
  go_wp2_with fail
  refine (aCT (HV.out.below HW.out) HF.out).mono ?_
  rintro e w3 ⟨pv,rfl,hpv,hb⟩
  obtain ⟨vs0,pa,pc,pb,po,hpe,hpc,hpm,hpl,hpa,hpx,hpy⟩:=hpv.parts
  have hpln:(gQ f).length=nb:=by unfold gQ;rw [iG,HNB.out]
  rw [hpln] at hpe hpc hpa hpl hpx hpy
  obtain ⟨rfl,hpb⟩:=hpa (by omega)
  subst hpe
  obtain ⟨W3,hW3⟩ : ∃ W3,W3=w3:=⟨_,rfl⟩
  rw [<-hW3] at hpx hpy hpb
  have HPX:=h! hpx
  have HPY:=h! hpy
  have HS3:Hid (iY W3 w3):=h! (by rw [hW3];exact Below.refl _ _)
  clear hpx hpy hpa hpln hpv hW3 HS2
  clear lB1 cB1 fB1
  replace B1:=h! (B1.out.later hb)
  replace HW:=h! (HW.out.trans (hb.mono HW.out.size))
  clear hb
  obtain ⟨lB1,cB1,fB1⟩:=B1.out
  go_wp2_with fail
  go_loopw [8] (fun i wr => ∃ c:Nat,c <= nb/\i = .int .i64 c/\(∀ (d:Nat) (y:BlockD),d < c -> f.blocks[d]? = some y -> y.phis.all (fN (natI (fO f f.blocks.length 0 d)))=true)/\iY W3 wr/\Below w.heap.size w wr/\Box wr w.heap.size #[.slice ap np cp,.int .i64 ar,.int .i64 ce,.slice (some ⟨bb,bo,none⟩) nb cb]) (fun i _=>nb - (intOf i).toNat)
  case atStart=>exact ⟨0,aO _,rfl,fun d y h=>absurd h (Nat.not_lt_zero _),HS3.out,HW.out,B1.out⟩
  obtain ⟨c,hc,rfl,hall,hS,hW,h1⟩:=hrel
  clear lB1 cB1 fB1
  have HPH:=h! hall
  replace HS3:=h! hS
  replace HW:=h! hW
  replace B1:=h! h1
  clear hall hS hW h1
  generalize wr=w4 at *
  obtain ⟨lB1,cB1,fB1⟩:=B1.out
  by_cases hlt:c < nb
  ·obtain ⟨x,hjx⟩ : ∃ x,f.blocks[c]? = some x:=⟨_,aC (by have:=HNB.out;omega)⟩
   obtain ⟨api,aii,ati,cpi,cii,cti,hC⟩:=HBX.out c x hjx
   have HJX:=h! hjx
   have HC:=h! hC
   obtain ⟨ps,hps⟩ : ∃ ps,ps=fO f f.blocks.length 0 c:=⟨_,rfl⟩
   have hpg:(gQ f).getD c []=natI ps:=by
    rw [hps,aH]
    unfold gQ
    rw [j9 (by rw [<-HNB.out];exact hlt)]
    rfl
   have hIP:Ints W3 (vs0.getD c undef) (natI ps):=by
    have h9:=HPY.out c hlt
    rwa [hpg] at h9
   have CP:=h! ((Below.cell HS3.out (p:=⟨pb,po+c,none⟩) hpb).trans (HPX.out c hlt))
   have CPl:=World.block_lt_of_cell? w4 _ CP.out
   have HIP:=h! hIP
   have HPS:=h! hps
   obtain ⟨qa,qc,hqe⟩:=hIP.form
   obtain ⟨ql,hql⟩ : ∃ ql,ql=(natI ps).length:=⟨_,rfl⟩
   rw [<-hql] at hqe
   rw [hqe] at CP HIP
   obtain ⟨k,hk⟩ : ∃ k,k=x.phis.all (fN (natI ps)):=⟨_,rfl⟩
   have HK:=h! hk
   have HCT:Hid (∀ wg,Below w4.heap.size w4 wg -> Calls Tryz.prog 69 #[.agg #[.slice api x.phis.length cpi,.slice aii x.code.length cii,.int .i64 x.term.op,.int .i64 x.term.val,.slice ati x.term.to.length cti,.int .i64 x.term.n],.slice qa ql qc] wg fun e w'=>e = .returned (.bool k)/\Below wg.heap.size wg w'):=h! (fun wg hbg=>by
    rw [hk]
    exact aGE (HC.out.phis.below PhiR.lasting (HW.out.trans (hbg.mono HW.out.size))) (HIP.out.below (iY.later HS3.out hbg)))
   clear hjx hC hps hpg hIP hqe hql hk
   go_upto_region 14 with (fail)
   refine wp_region_grow 11 (fun kz=>match kz with | 9=>.const (.bool k) | _=>.plain) (by kernel_rfl) (by kernel_rfl) ?_ (fun ν => ?_)
   ·(intro k;(try dsimp only);split <;> first | exact True.intro | (intro u w1 w2 hu hb;exact hu.below hb))
   simp only [aQ,aV,aR,aY]
   iterate 9 (refine Grow.val (v := ?_) rfl rfl (fun wg hbg hdg => ?_) ?_;rotate_left;(focus ((obtain ⟨lg0,cg0,fg0⟩:=B1.out.later hbg);(obtain ⟨k0,k1,k2,k3,k4,k5, -, -, -, -, -, -⟩:=HC.out.below (HW.out.trans (hbg.mono HW.out.size)) hbw;have hcp:=(hbg.cell (p:=⟨pb,po+c,none⟩) CPl).trans CP.out);clear hbg hdg;first | (go_simp;done) | (go_simp;with_reducible rfl)));simp only [Act.put,aA,aE,aF])
   refine Grow.call (f := ?_) (args := ?_) rfl (fun wg => ?_) (fun wg hbg hdg => ?_) ?_
   rotate_left 2
   focus (first | (go_simp;done) | (go_simp;refine And.intro ?_ ?_ <;> with_reducible rfl) | (go_simp;with_reducible rfl))
   focus exact Calls.mono (HCT.out wg hbg) (fun e w2 ⟨he,hb2⟩=>⟨_,he,rfl,hb2⟩)
   simp only [Act.put,Known.val,aA,aE,aF]
   refine Grow.val (v := ?_) rfl rfl (fun wg hbg hdg => ?_) ?_
   rotate_left
   focus ((obtain ⟨lg0,cg0,fg0⟩:=B1.out.later hbg);(obtain ⟨k0,k1,k2,k3,k4,k5, -, -, -, -, -, -⟩:=HC.out.below (HW.out.trans (hbg.mono HW.out.size)) hbw;have hcp:=(hbg.cell (p:=⟨pb,po+c,none⟩) CPl).trans CP.out);clear hbg hdg;first | (go_simp;done) | (go_simp;with_reducible rfl))
   simp only [Act.put,aA,aE,aF]
   intro wg hb hf hap
   clear hap
   clear lB1 cB1 fB1
   replace B1:=h! (B1.out.later hb)
   replace HS3:=h! (HS3.out.later hb)
   replace HW:=h! (HW.out.trans (hb.mono HW.out.size))
   clear hb
   obtain ⟨lB1,cB1,fB1⟩:=B1.out
   clear hf
   cases k
   ·have HFA:Hid (fM f c 5):=h! (.inr ⟨HWAY.out,.inl ⟨c,x,HJX.out,by rw [<-HPS.out];exact HK.out.symm,HPH.out,rfl,rfl⟩⟩)
    go_wp2
    go_ret2
    exact ⟨_,_,rfl,(fun h=>absurd HC0.out h),(fun _=>HFA.out),HW.out⟩
   have HNX:Hid (∀ (d:Nat) (y:BlockD),d < c+1 -> f.blocks[d]? = some y -> y.phis.all (fN (natI (fO f f.blocks.length 0 d)))=true):=h! (fun d y hd hy=>by
    by_cases e:d=c
    ·subst e
     rw [HJX.out] at hy
     cases hy
     rw [<-HPS.out];exact HK.out.symm
    exact HPH.out d y (by omega) hy)
   go_wp2
   go_roundw
   case rel=>exact ⟨c+1,hlt,by go_num,HNX.out,HS3.out,HW.out,B1.out⟩
   simp [intOf];omega
  have HPA:Hid (∀ (d:Nat) (y:BlockD),f.blocks[d]? = some y -> y.phis.all (fN (natI (fO f f.blocks.length 0 d)))=true):=h! (fun d y hy=>HPH.out d y (by have:=(aD.1 hy).1;rw [<-HNB.out] at this;omega) hy)
  go_wp2_with fail
  refine (aFU (HV.out.below HW.out) HF.out).mono ?_
  rintro e w5 ⟨ov,rfl,hov,hb⟩
  have HOV:=h! hov
  clear hov
  clear lB1 cB1 fB1
  replace B1:=h! (B1.out.later hb)
  replace HS3:=h! (HS3.out.later hb)
  replace HW:=h! (HW.out.trans (hb.mono HW.out.size))
  clear hb
  obtain ⟨lB1,cB1,fB1⟩:=B1.out
  go_wp2_with fail
  refine (z8 (HV.out.below HW.out) (jC HF.out)).mono ?_
  rintro e w6 ⟨uv,rfl,hu3,hb⟩
  obtain ⟨oc,ob,oo,rfl,hoc,hom,hob,hrows⟩:=(HOV.out.below hb).parts (by rw [<-HNB.out];omega)
  rw [<-HNB.out] at hoc hrows
  have hul:=aBM (jC HF.out)
  have hUR:Row w6 uv (uxF f).length 5 (jG (uxF f)):=Row.of_own hu3 (by omega)
  obtain ⟨xa,xc,xb,xo,rfl,hxc,hxm,hxa,hxx⟩:=hUR.parts
  obtain ⟨m,hm⟩ : ∃ m,m=(uxF f).length:=⟨_,rfl⟩
  rw [<-hm] at hul hxc ⊢
  obtain ⟨W6,hW6⟩ : ∃ W6,W6=w6:=⟨_,rfl⟩
  rw [<-hW6] at hrows hob hxa hxx
  have HROWS:=h! hrows
  have HXA:=h! hxa
  have HXX:=h! hxx
  have HM:=h! hm
  have HS6:Hid (iY W6 w6):=h! (by rw [hW6];exact Below.refl _ _)
  rw [<-HNB.out]
  clear lB1 cB1 fB1
  replace B1:=h! (B1.out.later hb)
  replace HS3:=h! (HS3.out.later hb)
  replace HW:=h! (HW.out.trans (hb.mono HW.out.size))
  clear hb
  obtain ⟨lB1,cB1,fB1⟩:=B1.out
  clear hrows hxa hxx hu3 hUR hW6 hm
  replace HS3:=HS6
  go_wp2_with fail
  go_loopw [11] (fun i wr => ∃ c:Nat,c <= m/\i = .int .i64 c/\(∀ v ∈ (uxF f).take c,gL f v)/\iY W6 wr/\Below w.heap.size w wr/\Box wr w.heap.size #[.slice ap np cp,.int .i64 ar,.int .i64 ce,.slice (some ⟨bb,bo,none⟩) nb cb]) (fun i _=>m - (intOf i).toNat)
  case atStart=>exact ⟨0,aO _,rfl,by simp,HS6.out,HW.out,B1.out⟩
  obtain ⟨c,hc,rfl,hall,hS,hW,h1⟩:=hrel
  clear lB1 cB1 fB1
  have HOK:=h! hall
  clear HS3
  replace HS6:=h! hS
  replace HW:=h! hW
  replace B1:=h! h1
  clear hall hS hW h1
  generalize wr=w7 at *
  obtain ⟨lB1,cB1,fB1⟩:=B1.out
  by_cases hlt:c < m
  ·obtain ⟨u,hu⟩ : ∃ u,(uxF f)[c]? = some u:=⟨_,aC (by have:=HM.out;omega)⟩
   obtain ⟨x0,x1,x2,x3,x4⟩:=sD _ _ _ hu
   obtain ⟨rfl,hxb⟩:=HXA.out (by have:=(aD.1 x0).1;omega)
   have e0:=(Below.cell HS6.out (p:=⟨xb,xo+c * 5,none⟩) hxb).trans (HXX.out _ _ x0)
   have e1:=(Below.cell HS6.out (p:=⟨xb,xo+(c * 5+1),none⟩) hxb).trans (HXX.out _ _ x1)
   have e2:=(Below.cell HS6.out (p:=⟨xb,xo+(c * 5+2),none⟩) hxb).trans (HXX.out _ _ x2)
   have e3:=(Below.cell HS6.out (p:=⟨xb,xo+(c * 5+3),none⟩) hxb).trans (HXX.out _ _ x3)
   have e4:=(Below.cell HS6.out (p:=⟨xb,xo+(c * 5+4),none⟩) hxb).trans (HXX.out _ _ x4)
   rw [<-Nat.add_assoc] at e1 e2 e3 e4
   have hum:=aG hu
   obtain ⟨d,k,hfd,hd0,hd1⟩:=mU HC0.out hum
   obtain ⟨hr0,hr1,hr2⟩:=rZ HF.out hum
   obtain ⟨dn,rfl⟩ : ∃ dn:Nat,d=(dn:Int):=⟨d.toNat,by omega⟩
   obtain ⟨bn,hbn⟩ : ∃ bn:Nat,u.blk=(bn:Int):=⟨u.blk.toNat,by omega⟩
   have hdl:dn < nb:=by have:=HNB.out;omega
   have hbl2:bn < nb:=by have:=HNB.out;omega
   obtain ⟨ra,hra1,hra2,hrax⟩:=HROWS.out dn hdl
   obtain ⟨y,hy1,hy2⟩:=hrax bn hbl2
   have HFD:=h! hfd
   have HU:=h! hu
   have HTK:=h! (eU _ _ _ hu)
   have HBN:=h! hbn
   have HRA:=h! hra1
   have HY1:=h! hy1
   have HY2:=h! hy2
   have HRX:=h! hrax
   have HR2:=h! hr2
   rw [hbn] at e2
   clear hu x0 x1 x2 x3 x4 hum hfd hd0 hd1 hr0 hr1 hr2 hbn hra1 hrax hy1 hy2
   go_upto_region 22 with (fail)
   have nBUB1:w7.heap.size ≠ w.heap.size:=fun e=>by have:=lB1;omega
   have nB1BU:w.heap.size ≠ w7.heap.size:=fun e=>nBUB1 e.symm
   clear lB1 cB1 fB1
   have hA_:=(Below.refl w7.heap.size w7).alloc (aB _) (.cells #[.int .i64 u.id,.int .i64 u.typ,.int .i64 bn,.int .i64 u.pos,.int .i64 u.src] 40)
   replace B1:=h! (B1.out.later hA_)
   replace HS6:=h! (HS6.out.later hA_)
   replace HW:=h! (HW.out.trans (hA_.mono HW.out.size))
   clear hA_
   have BU:=h! (Box.new w7 #[.int .i64 u.id,.int .i64 u.typ,.int .i64 bn,.int .i64 u.pos,.int .i64 u.src] 40)
   generalize w7.alloc (.cells #[.int .i64 u.id,.int .i64 u.typ,.int .i64 bn,.int .i64 u.pos,.int .i64 u.src] 40)=w8 at *
   obtain ⟨lB1,cB1,fB1⟩:=B1.out
   obtain ⟨lBU,cBU,fBU⟩:=BU.out
   clear e0 e1 e2 e3 e4
   go_wp2_with fail
   refine (aH1 (id:=u.id) (HV.out.below HW.out)).mono ?_
   rintro e w9 ⟨b9,k9,ok9,rfl,hdef,hb⟩
   have hdef2:b9=(dn:Int)/\k9=k/\ok9=true:=by
    rcases hdef with ⟨e,he,h1,h2,h3⟩ | ⟨he,_⟩
    ·rw [HFD.out] at he
     cases he
     exact ⟨h1,h2,h3⟩
    rw [HFD.out] at he;cases he
   obtain ⟨rfl,rfl,rfl⟩:=hdef2
   clear hdef
   clear lB1 cB1 fB1 lBU cBU fBU
   replace B1:=h! (B1.out.later hb)
   replace BU:=h! (BU.out.later hb)
   replace HS6:=h! (HS6.out.later hb)
   replace HW:=h! (HW.out.trans (hb.mono HW.out.size))
   clear hb
   obtain ⟨lB1,cB1,fB1⟩:=B1.out
   obtain ⟨lBU,cBU,fBU⟩:=BU.out
   have d1:=(Below.cell HS6.out (p:=⟨ob,oo+dn,none⟩) hob).trans HRA.out
   have d2:=(Below.cell HS6.out (p:=⟨ra,bn,none⟩) hra2).trans HY1.out
   go_upto_region 23 with (fail)
   go_quiet (fail)
   clear lB1 cB1 fB1 lBU cBU fBU
   clear d1 d2
   replace HW:=h! (d8 HW.out nq)
   replace HS6:Hid (iY W6 (w9.drewN nq)):=h! (d8 HS6.out nq)
   replace B1:=h! (B1.out.drewN nq)
   replace BU:=h! (BU.out.drewN nq)
   generalize w9.drewN nq=wq at *
   obtain ⟨lB1,cB1,fB1⟩:=B1.out
   obtain ⟨lBU,cBU,fBU⟩:=BU.out
   have HUI:Hid (gL f u ↔ ((u.pos < 0/\jP f dn u.src.toNat) \/ (¬ u.pos < 0/\kK f dn k9 bn u.pos))):=h! (by rw [aHY HFD.out,HBN.out];rfl)
   by_cases hpos:u.pos < 0
   ·obtain ⟨s0,s1⟩:=HR2.out hpos
    obtain ⟨sn,hsn⟩ : ∃ sn:Nat,u.src=(sn:Int):=⟨u.src.toNat,by omega⟩
    have hsl2:sn < nb:=by have:=HNB.out;omega
    obtain ⟨z,hz1,hz2⟩:=HRX.out sn hsl2
    have HZ:Hid (z=true ↔ gL f u):=h! (by
     rw [hz2,HUI.out,hsn,cH]
     exact ⟨fun h=>.inl ⟨hpos,h⟩,fun h=>h.elim (fun h=>h.2) (fun h=>absurd hpos h.1)⟩)
    have d1:=(Below.cell HS6.out (p:=⟨ob,oo+dn,none⟩) hob).trans HRA.out
    have d2:=(Below.cell HS6.out (p:=⟨ra,sn,none⟩) hra2).trans hz1
    rw [hsn] at BU
    clear lBU cBU fBU
    obtain ⟨lBU,cBU,fBU⟩:=BU.out
    clear hz1 hz2 s0 s1 hsn
    go_upto_region 25 with (fail)
    go_quiet (fail)
    clear lB1 cB1 fB1 lBU cBU fBU
    clear d1 d2
    replace HW:=h! (d8 HW.out nq)
    replace HS6:Hid (iY W6 (wq.drewN nq)):=h! (d8 HS6.out nq)
    replace B1:=h! (B1.out.drewN nq)
    replace BU:=h! (BU.out.drewN nq)
    generalize wq.drewN nq=wz at *
    obtain ⟨lB1,cB1,fB1⟩:=B1.out
    obtain ⟨lBU,cBU,fBU⟩:=BU.out
    cases z
    ·have HFA:Hid (fM f bn 6):=h! (.inr ⟨HWAY.out,.inr ⟨HPA.out,.inl ⟨c,u,HU.out,(fun h=>by have:=HZ.out.2 h;cases this),HOK.out,HBN.out.symm,rfl⟩⟩⟩)
     go_wp2
     go_ret2
     exact ⟨_,_,rfl,(fun h=>absurd HC0.out h),(fun _=>HFA.out),HW.out⟩
    have HNX:Hid (∀ v ∈ (uxF f).take (c+1),gL f v):=h! (by
     rw [HTK.out]
     intro v hv
     rcases aK.1 hv with hv | hv
     ·exact HOK.out v hv
     simp at hv;subst hv;exact HZ.out.1 rfl)
    go_wp2
    go_roundw
    case rel=>exact ⟨c+1,hlt,by go_num,HNX.out,HS6.out,HW.out,B1.out⟩
    simp [intOf];omega
   by_cases hdb:dn=bn
   ·have hq:((dn:Int) == (bn:Int))=true:=by simp [hdb]
    obtain ⟨z,hz⟩ : ∃ z,z=decide (k9 < u.pos):=⟨_,rfl⟩
    have HZ:Hid (z=true ↔ gL f u):=h! (by
     rw [hz,decide_eq_true_iff,HUI.out]
     unfold kK
     exact ⟨fun h=>.inr ⟨hpos,.inl ⟨by omega,h⟩⟩,fun h=>h.elim (fun h=>absurd h.1 hpos) (fun h=>h.2.elim (fun h=>h.2) (fun h=>absurd (by omega) h.1))⟩)
    have HDB:=h! hdb
    clear hdb
    by_cases hkp:k9 < u.pos
    ·have hz9:z=true:=by rw [hz];exact decide_eq_true hkp
     subst hz9
     clear hz
     have HNX:Hid (∀ v ∈ (uxF f).take (c+1),gL f v):=h! (by
      rw [HTK.out]
      intro v hv
      rcases aK.1 hv with hv | hv
      ·exact HOK.out v hv
      simp at hv;subst hv;exact HZ.out.1 rfl)
     go_wp2
     go_roundw
     case rel=>exact ⟨c+1,hlt,by go_num,HNX.out,HS6.out,HW.out,B1.out⟩
     simp [intOf];omega
    have hz9:z=false:=by rw [hz];exact decide_eq_false hkp
    subst hz9
    clear hz
    have HFA:Hid (fM f bn 6):=h! (.inr ⟨HWAY.out,.inr ⟨HPA.out,.inl ⟨c,u,HU.out,(fun h=>by have:=HZ.out.2 h;cases this),HOK.out,HBN.out.symm,rfl⟩⟩⟩)
    go_wp2
    go_ret2
    exact ⟨_,_,rfl,(fun h=>absurd HC0.out h),(fun _=>HFA.out),HW.out⟩
   have hq:((dn:Int) == (bn:Int))=false:=by simp;omega
   have HZ:Hid (y=true ↔ gL f u):=h! (by
    rw [HY2.out,HUI.out]
    unfold kK
    exact ⟨fun h=>.inr ⟨hpos,.inr ⟨by omega,by simpa using h⟩⟩,fun h=>h.elim (fun h=>absurd h.1 hpos) (fun h=>h.2.elim (fun h=>absurd h.1 (by omega)) (fun h=>by simpa using h.2))⟩)
   have HDB:=h! hdb
   clear hdb
   cases y
   ·have HFA:Hid (fM f bn 6):=h! (.inr ⟨HWAY.out,.inr ⟨HPA.out,.inl ⟨c,u,HU.out,(fun h=>by have:=HZ.out.2 h;cases this),HOK.out,HBN.out.symm,rfl⟩⟩⟩)
    go_wp2
    go_ret2
    exact ⟨_,_,rfl,(fun h=>absurd HC0.out h),(fun _=>HFA.out),HW.out⟩
   have HNX:Hid (∀ v ∈ (uxF f).take (c+1),gL f v):=h! (by
    rw [HTK.out]
    intro v hv
    rcases aK.1 hv with hv | hv
    ·exact HOK.out v hv
    simp at hv;subst hv;exact HZ.out.1 rfl)
   go_wp2
   go_roundw
   case rel=>exact ⟨c+1,hlt,by go_num,HNX.out,HS6.out,HW.out,B1.out⟩
   simp [intOf];omega
  have HFA:Hid (fM f 0 0):=h! (.inr ⟨HWAY.out,.inr ⟨HPA.out,.inr ⟨by have h9:=HOK.out;rw [aJ (by have:=HM.out;omega)] at h9;exact h9,rfl,rfl⟩⟩⟩)
  go_wp2
  go_ret2
  exact ⟨_,_,rfl,(fun h=>absurd HC0.out h),(fun _=>HFA.out),HW.out⟩
 have hc1:(d7 f != 0)=true:=by simpa using hc0
 have HC0:=h! hc0
 clear hc0
 go_wp2
 go_ret2
 exact ⟨0,d7 f,rfl,(fun _=>⟨rfl,rfl⟩),(fun h=>absurd h HC0.out),HW.out⟩
theorem aHZ {w:World} {u v:Value} {xs ys:List Int} (hu:Ints w u xs) (hv:Ints w v ys):Calls Tryz.prog 92 #[u,v] w fun e w'=>e = .returned (.bool (decide (xs=ys)))/\Below w.heap.size w w':=by
 obtain ⟨a1,c1,b1,o1,rfl,hc1,hm1,ha1,hx⟩:=hu.parts
 obtain ⟨a2,c2,b2,o2,rfl,hc2,hm2,ha2,hy⟩:=hv.parts
 obtain ⟨n1,hn1⟩ : ∃ n,n=xs.length:=⟨_,rfl⟩
 obtain ⟨n2,hn2⟩ : ∃ n,n=ys.length:=⟨_,rfl⟩
 rw [<-hn1] at hc1 ha1 hx ⊢
 rw [<-hn2] at hc2 ha2 hy ⊢
 have G1:=h! hn1
 have G2:=h! hn2
 have HA1:=h! ha1
 have HA2:=h! ha2
 have HX:=h! hx
 have HY:=h! hy
 have HW:=h! (Below.refl w.heap.size w)
 clear hu hv hn1 hn2 ha1 ha2 hx hy
 by_cases hne:n1=n2
 ·subst hne
  go_enter Tryz.func92,Tryz.ntmps92
  go_wp2_with fail
  go_loopw [13] (fun i wr => ∃ k:Nat,k <= n1/\i = .int .i64 k/\(∀ j,j < k -> xs.getD j 0=ys.getD j 0)/\Below w.heap.size w wr) (fun i _=>n1 - (intOf i).toNat)
  case atStart=>exact ⟨0,aO _,rfl,fun j h=>absurd h (Nat.not_lt_zero _),HW.out⟩
  obtain ⟨k,hk,rfl,hs,hW⟩:=hrel
  have HS:=h! hs
  replace HW:=h! hW
  clear hs hW
  generalize wr=w3 at *
  by_cases hlt:k < n1
  ·obtain ⟨rfl,hb1⟩:=HA1.out (by omega)
   obtain ⟨rfl,hb2⟩:=HA2.out (by omega)
   have hxk:=(HW.out.cell (p:=⟨b1,o1+k,none⟩) hb1).trans (HX.out k hlt)
   have hyk:=(HW.out.cell (p:=⟨b2,o2+k,none⟩) hb2).trans (HY.out k hlt)
   obtain ⟨p,hp⟩ : ∃ p,p=xs.getD k 0:=⟨_,rfl⟩
   obtain ⟨q,hq⟩ : ∃ q,q=ys.getD k 0:=⟨_,rfl⟩
   rw [<-hp] at hxk
   rw [<-hq] at hyk
   have H3:=h! hp
   have H4:=h! hq
   clear hp hq
   cases hpq:(p != q)
   ·have HPQ:=h! hpq
    go_upto_region 6 with (fail)
    go_quiet (fail)
    go_wp2
    go_roundw
    case rel =>
     refine ⟨k+1,hlt,by go_num, ?_,d8 HW.out _⟩
     intro j hj
     by_cases e:j=k
     ·subst e
      have:=HPQ.out
      simp at this
      rw [<-H3.out, <-H4.out,this]
     exact HS.out j (by omega)
    simp [intOf];omega
   have HPQ:=h! hpq
   go_upto_region 6 with (fail)
   go_quiet (fail)
   go_wp2
   go_ret
   exact ⟨f5 (decide_eq_false (fun e=>by
    have:=HPQ.out
    simp at this
    exact this (by rw [H3.out,H4.out,e]))).symm,d8 HW.out _⟩
  have hkn:k=n1:=by omega
  have HEQ:Hid (xs=ys):=h! (aBI (by rw [<-G1.out, <-G2.out]) (by rw [<-G1.out, <-hkn];exact HS.out))
  clear hkn
  go_wp2
  go_ret
  exact ⟨f5 (decide_eq_true HEQ.out).symm,HW.out⟩
 have hq:((n1:Int) != (n2:Int))=true:=by simp;omega
 have HNE:=h! hne
 clear hne
 go_enter Tryz.func92,Tryz.ntmps92
 go_wp2
 go_ret
 exact ⟨f5 (decide_eq_false (fun e=>HNE.out (by rw [G1.out,G2.out,e]))).symm,HW.out⟩
theorem aGB {w:World} {v:Value} {xs:List Int} {k:FuncId} {cap:Array Value} (eg:Enters Tryz.prog k) (p:Int -> Bool) (hv:Ints w v xs)
  (hstep:∀ (W:World) (x:Int),x ∈ xs -> Below w.heap.size w W -> Calls Tryz.prog k (#[.int .i64 x] ++ cap) W fun e W'=>e = .returned (.bool (p x))/\Below W.heap.size W W') :
  Calls Tryz.prog 113 #[v,.func (.func k) #[] cap] w fun e w' => ∃ r:Int,e = .returned (.int .i64 r)/\decide (0 <= r)=xs.any p/\Below w.heap.size w w':=by
 obtain ⟨a1,c1,b1,o1,rfl,hc1,hm1,ha1,hx⟩:=hv.parts
 obtain ⟨n1,hn1⟩ : ∃ n,n=xs.length:=⟨_,rfl⟩
 rw [<-hn1] at hc1 ha1 hx ⊢
 have G1:=h! hn1
 have HA1:=h! ha1
 have HX:=h! hx
 have HW:=h! (Below.refl w.heap.size w)
 have HST:=h! hstep
 clear hv hn1 ha1 hx hstep
 have eg1:∀ (args:Array Value) (w:World),(callFunc k args).run Tryz.prog w = .ok (.enter k args) w:=eg
 go_enter Tryz.func113,Tryz.ntmps113
 go_wp2_with fail
 go_loopw [8] (fun i wr => ∃ j:Nat,j <= n1/\i = .int .i64 j/\(xs.take j).any p=false/\Below w.heap.size w wr) (fun i _=>n1 - (intOf i).toNat)
 case atStart=>exact ⟨0,aO _,rfl,rfl,HW.out⟩
 case round =>
  obtain ⟨j,hj,rfl,hs,hW⟩:=hrel
  have HS:=h! hs
  replace HW:=h! hW
  clear hs hW
  generalize wr=w3 at *
  by_cases hlt:j < n1
  ·obtain ⟨rfl,hb1⟩:=HA1.out (by omega)
   have hxk:=(HW.out.cell (p:=⟨b1,o1+j,none⟩) hb1).trans (HX.out j hlt)
   obtain ⟨x,hx⟩ : ∃ x,x=xs.getD j 0:=⟨_,rfl⟩
   rw [<-hx] at hxk
   have hxm:xs[j]? = some x:=by rw [hx];exact fI xs j (by have:=G1.out;omega)
   have HXM:=h! (aG hxm)
   have HTK:=h! (eU xs j x hxm)
   clear hx hxm
   obtain ⟨c,hc⟩ : ∃ c,c=p x:=⟨_,rfl⟩
   have HC:=h! hc
   have HCT:=h! (HST.out w3 x HXM.out HW.out)
   rw [<-hc] at HCT
   clear hc
   cases c
   ·go_wp2_with (go_at_fn k;refine HCT.out.mono ?_;rintro e w4 ⟨rfl,hb4⟩;have HB4:=h! hb4;clear hb4)
    have HW4:=h! (HW.out.trans (HB4.out.mono HW.out.size))
    have HS2:Hid ((xs.take (j+1)).any p=false):=h! (by rw [HTK.out,List.any_append,HS.out];simp [<-HC.out])
    go_roundw
    case rel=>exact ⟨j+1,hlt,by go_num,HS2.out,HW4.out⟩
    simp [intOf];omega
   go_wp2_with (go_at_fn k;refine HCT.out.mono ?_;rintro e w4 ⟨rfl,hb4⟩;have HB4:=h! hb4;clear hb4)
   have HW4:=h! (HW.out.trans (HB4.out.mono HW.out.size))
   have HAN:Hid (xs.any p=true):=h! (by rw [eO];exact ⟨x,HXM.out,HC.out.symm⟩)
   go_ret
   exact ⟨j,rfl,by rw [HAN.out];simp,HW4.out⟩
  have HAN:Hid (xs.any p=false):=h! (by have h9:=HS.out;rw [aJ (by have:=G1.out;omega)] at h9;exact h9)
  go_wp2
  go_ret
  exact ⟨-1,rfl,by rw [HAN.out];simp,HW.out⟩
theorem aDR {w:World} {v:Value} {xs:List Int} {k:FuncId} {cap:Array Value} (eg:Enters Tryz.prog k) (p:Int -> Bool) (hv:Ints w v xs)
  (hstep:∀ (W:World) (x:Int),x ∈ xs -> Below w.heap.size w W -> Calls Tryz.prog k (#[.int .i64 x] ++ cap) W fun e W'=>e = .returned (.bool (p x))/\Below W.heap.size W W') :
  Calls Tryz.prog 74 #[v,.func (.func k) #[] cap] w fun e w'=>e = .returned (.bool (xs.any p))/\Below w.heap.size w w':=by
 have HC:=h! (aGB eg p hv hstep)
 clear hv hstep
 go_enter Tryz.func74,Tryz.ntmps74
 go_wp2_with fail
 refine HC.out.mono ?_
 rintro e w2 ⟨r,rfl,hr,hb⟩
 have HR:=h! hr
 have HB:=h! hb
 clear hr hb
 go_wp2
 go_ret
 exact ⟨f5 HR.out,HB.out⟩
end Go.Proofs.YtgmhnepmkaonaaaGreat
