/- Part 49. -/
import Derived.Test.YtcmflfkpeodicaaGreatIRA48
import Derived.Test.YtcmflfkpeodicaaGreatIRA45
import Derived.Test.YtcmflfkpeodicaaGreatIRA43
namespace Go.Proofs.YtcmflfkpeodicaaGreat
set_option maxHeartbeats 25600000
set_option linter.all false
open Go.RowKit
private theorem fG.alloc {w0 W:World} (h:fG w0 W) (o:Obj):fG w0 (W.alloc o):=h.later ((Below.refl _ _).alloc (aF _) o)
def aEI (f:FuncD) (w:World) (e:Ending) (w' : World):Prop :=
 ∃ b g:Int,e = .returned (.tuple #[.int .i64 b,.int .i64 g])/\(eL f ≠ 0 -> b=0/\g=eL f)/\(eL f=0 -> fM f b g)/\Below w.heap.size w w'
theorem aGP {f:FuncD} {u:UseD} {d k:Int} (h:((entF f).find? fun e=>e.1 == u.id)=some (u.id,d,k)):gI f u ↔ ((u.pos < 0/\jX f d.toNat u.src.toNat) \/ (¬ u.pos < 0/\kQ f d k u.blk u.pos)) :=
 ⟨fun ⟨d2,k2,h2,h3⟩=>by rw [h] at h2;cases h2;exact h3,fun h3=>⟨d,k,h,h3⟩⟩
set_option maxRecDepth 100000 in
theorem zQ {w:World} {v:Value} {f:FuncD} (hv:gG w v f):Calls Tryz.prog 21 #[v] w (aEI f w):=by
 have HV:=h! hv
 obtain ⟨ap,cp,ab,cb,rfl,hp,ha,hc,hB⟩:=hv.form
 obtain ⟨a2,c2,bb,bo,hbe,hbc,hbm,hbl,hba,hbx⟩:=eW hB
 cases hbe
 have HBG:Hid (eL f=0 -> 1 <= f.blocks.length/\f.blocks.length <= 512):=h! (fun h=>gV (eS h).1)
 obtain ⟨np,hnp⟩ : ∃ np,np=f.params.length:=⟨_,rfl⟩
 obtain ⟨ar,har⟩ : ∃ ar,ar=f.arrays:=⟨_,rfl⟩
 obtain ⟨ce,hce⟩ : ∃ ce,ce=f.cells:=⟨_,rfl⟩
 obtain ⟨nb,hnb⟩ : ∃ nb,nb=f.blocks.length:=⟨_,rfl⟩
 rw [<-hnb, <-hnp, <-har, <-hce] at HV
 rw [<-hnb] at hbc hba hbl
 rw [<-hnb, <-hnp, <-har, <-hce]
 have HNB:=h! hnb
 have HBA:=h! hba
 have HBX:=h! hbx
 clear hp ha hc hB hv hbx hnp hnb hba har hce
 go_enter Tryz.func21,Tryz.ntmps21
 go_upto_region 1 with (fail)
 have hA_:=(Below.refl w.heap.size w).alloc (aF _) (.cells #[.slice ap np cp,.int .i64 ar,.int .i64 ce,.slice ab nb cb] 25)
 have HW:=h! hA_
 clear hA_
 have B1:=h! (Box.new w #[.slice ap np cp,.int .i64 ar,.int .i64 ce,.slice ab nb cb] 25)
 generalize w.alloc (.cells #[.slice ap np cp,.int .i64 ar,.int .i64 ce,.slice ab nb cb] 25)=wv at *
 obtain ⟨lB1,cB1,fB1⟩:=B1.out
 go_wp2_with fail
 refine (aB8 (HV.out.below HW.out)).mono ?_
 rintro e w1 ⟨rfl,hb⟩
 clear lB1 cB1 fB1
 replace B1:=h! (B1.out.later hb)
 replace HW:=h! (HW.out.trans (hb.mono HW.out.size))
 clear hb
 obtain ⟨lB1,cB1,fB1⟩:=B1.out
 by_cases hc0:eL f=0
 ·have HC0:=h! hc0
  obtain ⟨hn1,h512⟩:=HBG.out hc0
  rw [<-HNB.out] at hn1 h512
  have hc1:(eL f != 0)=false:=by simpa using hc0
  have HF:=h! (eS hc0).1
  clear hc0
  obtain ⟨rfl,hbw⟩:=HBA.out (by omega)
  go_wp2_with fail
  refine (nO (gone := -1) (HV.out.below HW.out) HF.out).mono ?_
  rintro e w2 ⟨sv,S,rfl,hS,hBS,hb⟩
  have HS:=h! hS
  obtain ⟨sa,sc,sb,so,hse,hsc,hsm,hsa,hsx⟩:=hBS.parts
  have hSl:S.length=nb:=by rw [hS.1,HNB.out]
  rw [hSl] at hse hsc hsa
  subst hse
  obtain ⟨rfl,hsb⟩:=hsa (by omega)
  obtain ⟨W2,hW2⟩ : ∃ W2,W2=w2:=⟨_,rfl⟩
  have HSX:Hid (∀ (j:Nat) (x:Bool),S[j]? = some x -> W2.cell? ⟨sb,so+j,none⟩=some (.bool x)):=h! (by rw [hW2];exact hsx)
  have HSL:=h! hSl
  rw [<-hW2] at hsb
  have HS2:Hid (fG W2 w2):=h! (by rw [hW2];exact Below.refl _ _)
  clear hS hBS hsx hsa hSl hW2
  clear lB1 cB1 fB1
  replace B1:=h! (B1.out.later hb)
  replace HW:=h! (HW.out.trans (hb.mono HW.out.size))
  clear hb
  obtain ⟨lB1,cB1,fB1⟩:=B1.out
  go_wp2_with fail
  go_loopw [6] (fun i wr => ∃ c:Nat,c <= nb/\i = .int .i64 c/\(∀ d,d < c -> Way (toB f) (-1) d)/\wr=w2) (fun i _=>nb - (intOf i).toNat)
  case atStart=>exact ⟨0,aP _,rfl,fun d h=>absurd h (Nat.not_lt_zero _),rfl⟩
  obtain ⟨c,hc,rfl,hall,he⟩:=hrel
  subst he
  have HALL:=h! hall
  clear hall
  by_cases hlt:c < nb
  ·obtain ⟨x,hx⟩ : ∃ x,S[c]? = some x:=⟨_,aB (by rw [HSL.out];exact hlt)⟩
   have d1:=(Below.cell HS2.out (p:=⟨sb,so+c,none⟩) hsb).trans (HSX.out c x hx)
   have hw:=HS.out.2 c
   rw [hx] at hw
   have HWC:=h! hw
   clear hx hw
   cases x
   ·have HFA:Hid (fM f c 4):=h! (.inl ⟨c,by rw [<-HNB.out];exact hlt,(fun h=>by have:=HWC.out.2 h;cases this),HALL.out,rfl,rfl⟩)
    go_wp2
    go_ret2
    exact ⟨_,_,rfl,(fun h=>absurd HC0.out h),(fun _=>HFA.out),HW.out⟩
   have HNX:Hid (∀ d,d < c+1 -> Way (toB f) (-1) d):=h! (fun d hd=>by
    by_cases e:d=c
    ·subst e;exact HWC.out.1 rfl
    exact HALL.out d (by omega))
   go_wp2
   go_roundw
   case rel=>exact ⟨c+1,hlt,by go_num,HNX.out,by first | rfl | trivial⟩
   simp [intOf];omega
  have HWAY:Hid (∀ d,d < f.blocks.length -> Way (toB f) (-1) d):=h! (fun d hd=>HALL.out d (by rw [<-HNB.out] at hd;omega))
  go_wp2_with fail
  refine (aC2 (HV.out.below HW.out) HF.out).mono ?_
  rintro e w3 ⟨pv,rfl,hpv,hb⟩
  obtain ⟨vs0,pa,pc,pb,po,hpe,hpc,hpm,hpl,hpa,hpx,hpy⟩:=hpv.parts
  have hpln:(gB f).length=nb:=by unfold gB;rw [gR,HNB.out]
  rw [hpln] at hpe hpc hpa hpl hpx hpy
  obtain ⟨rfl,hpb⟩:=hpa (by omega)
  subst hpe
  obtain ⟨W3,hW3⟩ : ∃ W3,W3=w3:=⟨_,rfl⟩
  rw [<-hW3] at hpx hpy hpb
  have HPX:=h! hpx
  have HPY:=h! hpy
  have HS3:Hid (fG W3 w3):=h! (by rw [hW3];exact Below.refl _ _)
  clear hpx hpy hpa hpln hpv hW3 HS2
  clear lB1 cB1 fB1
  replace B1:=h! (B1.out.later hb)
  replace HW:=h! (HW.out.trans (hb.mono HW.out.size))
  clear hb
  obtain ⟨lB1,cB1,fB1⟩:=B1.out
  go_wp2_with fail
  go_loopw [8] (fun i wr => ∃ c:Nat,c <= nb/\i = .int .i64 c/\(∀ (d:Nat) (y:BlockD),d < c -> f.blocks[d]? = some y -> y.phis.all (fJ (natI (fO f f.blocks.length 0 d)))=true)/\fG W3 wr/\Below w.heap.size w wr/\Box wr w.heap.size #[.slice ap np cp,.int .i64 ar,.int .i64 ce,.slice (some ⟨bb,bo,none⟩) nb cb]) (fun i _=>nb - (intOf i).toNat)
  case atStart=>exact ⟨0,aP _,rfl,fun d y h=>absurd h (Nat.not_lt_zero _),HS3.out,HW.out,B1.out⟩
  obtain ⟨c,hc,rfl,hall,hS,hW,h1⟩:=hrel
  clear lB1 cB1 fB1
  have HPH:=h! hall
  replace HS3:=h! hS
  replace HW:=h! hW
  replace B1:=h! h1
  clear hall hS hW h1
  generalize wr=w4 at *
  obtain ⟨lB1,cB1,fB1⟩:=B1.out
  by_cases hlt:c < nb
  ·obtain ⟨x,hjx⟩ : ∃ x,f.blocks[c]? = some x:=⟨_,aB (by have:=HNB.out;omega)⟩
   obtain ⟨api,aii,ati,cpi,cii,cti,hC⟩:=HBX.out c x hjx
   have HJX:=h! hjx
   have HC:=h! hC
   obtain ⟨ps,hps⟩ : ∃ ps,ps=fO f f.blocks.length 0 c:=⟨_,rfl⟩
   have hpg:(gB f).getD c []=natI ps:=by
    rw [hps,aH]
    unfold gB
    rw [jZ (by rw [<-HNB.out];exact hlt)]
    rfl
   have hIP:Ints W3 (vs0.getD c undef) (natI ps):=by
    have h9:=HPY.out c hlt
    rwa [hpg] at h9
   have CP:=h! ((Below.cell HS3.out (p:=⟨pb,po+c,none⟩) hpb).trans (HPX.out c hlt))
   have CPl:=World.block_lt_of_cell? w4 _ CP.out
   have HIP:=h! hIP
   have HPS:=h! hps
   obtain ⟨qa,qc,hqe⟩:=hIP.form
   obtain ⟨ql,hql⟩ : ∃ ql,ql=(natI ps).length:=⟨_,rfl⟩
   rw [<-hql] at hqe
   rw [hqe] at CP HIP
   obtain ⟨k,hk⟩ : ∃ k,k=x.phis.all (fJ (natI ps)):=⟨_,rfl⟩
   have HK:=h! hk
   have HCT:Hid (∀ wg,Below w4.heap.size w4 wg -> Calls Tryz.prog 62 #[.agg #[.slice api x.phis.length cpi,.slice aii x.code.length cii,.int .i64 x.term.op,.int .i64 x.term.val,.slice ati x.term.to.length cti,.int .i64 x.term.n],.slice qa ql qc] wg fun e w'=>e = .returned (.bool k)/\Below wg.heap.size wg w'):=h! (fun wg hbg=>by
    rw [hk]
    exact aD4 (HC.out.phis.below PhiR.lasting (HW.out.trans (hbg.mono HW.out.size))) (HIP.out.below (fG.later HS3.out hbg)))
   clear hjx hC hps hpg hIP hqe hql hk
   go_upto_region 14 with (fail)
   refine wp_region_grow 11 (fun kz=>match kz with | 9=>.const (.bool k) | _=>.plain) (by kernel_rfl) (by kernel_rfl) ?_ (fun ν => ?_)
   ·(intro k;(try dsimp only);split <;> first | exact True.intro | (intro u w1 w2 hu hb;exact hu.below hb))
   simp only [aK,aR,aM,aT]
   iterate 9 (refine Grow.val (v := ?_) rfl rfl (fun wg hbg hdg => ?_) ?_;rotate_left;(focus ((obtain ⟨lg0,cg0,fg0⟩:=B1.out.later hbg);(obtain ⟨k0,k1,k2,k3,k4,k5, -, -, -, -, -, -⟩:=HC.out.below (HW.out.trans (hbg.mono HW.out.size)) hbw;have hcp:=(hbg.cell (p:=⟨pb,po+c,none⟩) CPl).trans CP.out);clear hbg hdg;first | (go_simp;done) | (go_simp;with_reducible rfl)));simp only [Act.put,aA,aC,aD])
   refine Grow.call (f := ?_) (args := ?_) rfl (fun wg => ?_) (fun wg hbg hdg => ?_) ?_
   rotate_left 2
   focus (first | (go_simp;done) | (go_simp;refine And.intro ?_ ?_ <;> with_reducible rfl) | (go_simp;with_reducible rfl))
   focus exact Calls.mono (HCT.out wg hbg) (fun e w2 ⟨he,hb2⟩=>⟨_,he,rfl,hb2⟩)
   simp only [Act.put,Known.val,aA,aC,aD]
   refine Grow.val (v := ?_) rfl rfl (fun wg hbg hdg => ?_) ?_
   rotate_left
   focus ((obtain ⟨lg0,cg0,fg0⟩:=B1.out.later hbg);(obtain ⟨k0,k1,k2,k3,k4,k5, -, -, -, -, -, -⟩:=HC.out.below (HW.out.trans (hbg.mono HW.out.size)) hbw;have hcp:=(hbg.cell (p:=⟨pb,po+c,none⟩) CPl).trans CP.out);clear hbg hdg;first | (go_simp;done) | (go_simp;with_reducible rfl))
   simp only [Act.put,aA,aC,aD]
   intro wg hb hf hap
   clear hap
   clear lB1 cB1 fB1
   replace B1:=h! (B1.out.later hb)
   replace HS3:=h! (HS3.out.later hb)
   replace HW:=h! (HW.out.trans (hb.mono HW.out.size))
   clear hb
   obtain ⟨lB1,cB1,fB1⟩:=B1.out
   clear hf
   cases k
   ·have HFA:Hid (fM f c 5):=h! (.inr ⟨HWAY.out,.inl ⟨c,x,HJX.out,by rw [<-HPS.out];exact HK.out.symm,HPH.out,rfl,rfl⟩⟩)
    go_wp2
    go_ret2
    exact ⟨_,_,rfl,(fun h=>absurd HC0.out h),(fun _=>HFA.out),HW.out⟩
   have HNX:Hid (∀ (d:Nat) (y:BlockD),d < c+1 -> f.blocks[d]? = some y -> y.phis.all (fJ (natI (fO f f.blocks.length 0 d)))=true):=h! (fun d y hd hy=>by
    by_cases e:d=c
    ·subst e
     rw [HJX.out] at hy
     cases hy
     rw [<-HPS.out];exact HK.out.symm
    exact HPH.out d y (by omega) hy)
   go_wp2
   go_roundw
   case rel=>exact ⟨c+1,hlt,by go_num,HNX.out,HS3.out,HW.out,B1.out⟩
   simp [intOf];omega
  have HPA:Hid (∀ (d:Nat) (y:BlockD),f.blocks[d]? = some y -> y.phis.all (fJ (natI (fO f f.blocks.length 0 d)))=true):=h! (fun d y hy=>HPH.out d y (by have:=(aE.1 hy).1;rw [<-HNB.out] at this;omega) hy)
  go_wp2_with fail
  refine (aFU (HV.out.below HW.out) HF.out).mono ?_
  rintro e w5 ⟨ov,rfl,hov,hb⟩
  have HOV:=h! hov
  clear hov
  clear lB1 cB1 fB1
  replace B1:=h! (B1.out.later hb)
  replace HS3:=h! (HS3.out.later hb)
  replace HW:=h! (HW.out.trans (hb.mono HW.out.size))
  clear hb
  obtain ⟨lB1,cB1,fB1⟩:=B1.out
  go_wp2_with fail
  refine (yW (HV.out.below HW.out) (kF HF.out)).mono ?_
  rintro e w6 ⟨uv,rfl,hu3,hb⟩
  obtain ⟨oc,ob,oo,rfl,hoc,hom,hob,hrows⟩:=(HOV.out.below hb).parts (by rw [<-HNB.out];omega)
  rw [<-HNB.out] at hoc hrows
  have hul:=zA (kF HF.out)
  have hUR:Row w6 uv (uxF f).length 5 (iW (uxF f)):=Row.of_own hu3 (by omega)
  obtain ⟨xa,xc,xb,xo,rfl,hxc,hxm,hxa,hxx⟩:=hUR.parts
  obtain ⟨m,hm⟩ : ∃ m,m=(uxF f).length:=⟨_,rfl⟩
  rw [<-hm] at hul hxc ⊢
  obtain ⟨W6,hW6⟩ : ∃ W6,W6=w6:=⟨_,rfl⟩
  rw [<-hW6] at hrows hob hxa hxx
  have HROWS:=h! hrows
  have HXA:=h! hxa
  have HXX:=h! hxx
  have HM:=h! hm
  have HS6:Hid (fG W6 w6):=h! (by rw [hW6];exact Below.refl _ _)
  rw [<-HNB.out]
  clear lB1 cB1 fB1
  replace B1:=h! (B1.out.later hb)
  replace HS3:=h! (HS3.out.later hb)
  replace HW:=h! (HW.out.trans (hb.mono HW.out.size))
  clear hb
  obtain ⟨lB1,cB1,fB1⟩:=B1.out
  clear hrows hxa hxx hu3 hUR hW6 hm
  replace HS3:=HS6
  go_wp2_with fail
  go_loopw [11] (fun i wr => ∃ c:Nat,c <= m/\i = .int .i64 c/\(∀ v ∈ (uxF f).take c,gI f v)/\fG W6 wr/\Below w.heap.size w wr/\Box wr w.heap.size #[.slice ap np cp,.int .i64 ar,.int .i64 ce,.slice (some ⟨bb,bo,none⟩) nb cb]) (fun i _=>m - (intOf i).toNat)
  case atStart=>exact ⟨0,aP _,rfl,by simp,HS6.out,HW.out,B1.out⟩
  obtain ⟨c,hc,rfl,hall,hS,hW,h1⟩:=hrel
  clear lB1 cB1 fB1
  have HOK:=h! hall
  clear HS3
  replace HS6:=h! hS
  replace HW:=h! hW
  replace B1:=h! h1
  clear hall hS hW h1
  generalize wr=w7 at *
  obtain ⟨lB1,cB1,fB1⟩:=B1.out
  by_cases hlt:c < m
  ·obtain ⟨u,hu⟩ : ∃ u,(uxF f)[c]? = some u:=⟨_,aB (by have:=HM.out;omega)⟩
   obtain ⟨x0,x1,x2,x3,x4⟩:=sH _ _ _ hu
   obtain ⟨rfl,hxb⟩:=HXA.out (by have:=(aE.1 x0).1;omega)
   have e0:=(Below.cell HS6.out (p:=⟨xb,xo+c * 5,none⟩) hxb).trans (HXX.out _ _ x0)
   have e1:=(Below.cell HS6.out (p:=⟨xb,xo+(c * 5+1),none⟩) hxb).trans (HXX.out _ _ x1)
   have e2:=(Below.cell HS6.out (p:=⟨xb,xo+(c * 5+2),none⟩) hxb).trans (HXX.out _ _ x2)
   have e3:=(Below.cell HS6.out (p:=⟨xb,xo+(c * 5+3),none⟩) hxb).trans (HXX.out _ _ x3)
   have e4:=(Below.cell HS6.out (p:=⟨xb,xo+(c * 5+4),none⟩) hxb).trans (HXX.out _ _ x4)
   rw [<-Nat.add_assoc] at e1 e2 e3 e4
   have hum:=aG hu
   obtain ⟨d,k,hfd,hd0,hd1⟩:=mQ HC0.out hum
   obtain ⟨hr0,hr1,hr2⟩:=rK HF.out hum
   obtain ⟨dn,rfl⟩ : ∃ dn:Nat,d=(dn:Int):=⟨d.toNat,by omega⟩
   obtain ⟨bn,hbn⟩ : ∃ bn:Nat,u.blk=(bn:Int):=⟨u.blk.toNat,by omega⟩
   have hdl:dn < nb:=by have:=HNB.out;omega
   have hbl2:bn < nb:=by have:=HNB.out;omega
   obtain ⟨ra,hra1,hra2,hrax⟩:=HROWS.out dn hdl
   obtain ⟨y,hy1,hy2⟩:=hrax bn hbl2
   have HFD:=h! hfd
   have HU:=h! hu
   have HTK:=h! (eP _ _ _ hu)
   have HBN:=h! hbn
   have HRA:=h! hra1
   have HY1:=h! hy1
   have HY2:=h! hy2
   have HRX:=h! hrax
   have HR2:=h! hr2
   rw [hbn] at e2
   clear hu x0 x1 x2 x3 x4 hum hfd hd0 hd1 hr0 hr1 hr2 hbn hra1 hrax hy1 hy2
   go_upto_region 22 with (fail)
   have nBUB1:w7.heap.size ≠ w.heap.size:=fun e=>by have:=lB1;omega
   have nB1BU:w.heap.size ≠ w7.heap.size:=fun e=>nBUB1 e.symm
   clear lB1 cB1 fB1
   have hA_:=(Below.refl w7.heap.size w7).alloc (aF _) (.cells #[.int .i64 u.id,.int .i64 u.typ,.int .i64 bn,.int .i64 u.pos,.int .i64 u.src] 127)
   replace B1:=h! (B1.out.later hA_)
   replace HS6:=h! (HS6.out.later hA_)
   replace HW:=h! (HW.out.trans (hA_.mono HW.out.size))
   clear hA_
   have BU:=h! (Box.new w7 #[.int .i64 u.id,.int .i64 u.typ,.int .i64 bn,.int .i64 u.pos,.int .i64 u.src] 127)
   generalize w7.alloc (.cells #[.int .i64 u.id,.int .i64 u.typ,.int .i64 bn,.int .i64 u.pos,.int .i64 u.src] 127)=w8 at *
   obtain ⟨lB1,cB1,fB1⟩:=B1.out
   obtain ⟨lBU,cBU,fBU⟩:=BU.out
   clear e0 e1 e2 e3 e4
   go_wp2_with fail
   refine (aGZ (id:=u.id) (HV.out.below HW.out)).mono ?_
   rintro e w9 ⟨b9,k9,ok9,rfl,hdef,hb⟩
   have hdef2:b9=(dn:Int)/\k9=k/\ok9=true:=by
    rcases hdef with ⟨e,he,h1,h2,h3⟩ | ⟨he,_⟩
    ·rw [HFD.out] at he
     cases he
     exact ⟨h1,h2,h3⟩
    rw [HFD.out] at he;cases he
   obtain ⟨rfl,rfl,rfl⟩:=hdef2
   clear hdef
   clear lB1 cB1 fB1 lBU cBU fBU
   replace B1:=h! (B1.out.later hb)
   replace BU:=h! (BU.out.later hb)
   replace HS6:=h! (HS6.out.later hb)
   replace HW:=h! (HW.out.trans (hb.mono HW.out.size))
   clear hb
   obtain ⟨lB1,cB1,fB1⟩:=B1.out
   obtain ⟨lBU,cBU,fBU⟩:=BU.out
   have d1:=(Below.cell HS6.out (p:=⟨ob,oo+dn,none⟩) hob).trans HRA.out
   have d2:=(Below.cell HS6.out (p:=⟨ra,bn,none⟩) hra2).trans HY1.out
   go_upto_region 23 with (fail)
   go_quiet (fail)
   clear lB1 cB1 fB1 lBU cBU fBU
   clear d1 d2
   replace HW:=h! (eK HW.out nq)
   replace HS6:Hid (fG W6 (w9.drewN nq)):=h! (eK HS6.out nq)
   replace B1:=h! (B1.out.drewN nq)
   replace BU:=h! (BU.out.drewN nq)
   generalize w9.drewN nq=wq at *
   obtain ⟨lB1,cB1,fB1⟩:=B1.out
   obtain ⟨lBU,cBU,fBU⟩:=BU.out
   have HUI:Hid (gI f u ↔ ((u.pos < 0/\jX f dn u.src.toNat) \/ (¬ u.pos < 0/\kQ f dn k9 bn u.pos))):=h! (by rw [aGP HFD.out,HBN.out];rfl)
   by_cases hpos:u.pos < 0
   ·obtain ⟨s0,s1⟩:=HR2.out hpos
    obtain ⟨sn,hsn⟩ : ∃ sn:Nat,u.src=(sn:Int):=⟨u.src.toNat,by omega⟩
    have hsl2:sn < nb:=by have:=HNB.out;omega
    obtain ⟨z,hz1,hz2⟩:=HRX.out sn hsl2
    have HZ:Hid (z=true ↔ gI f u):=h! (by
     rw [hz2,HUI.out,hsn,cU]
     exact ⟨fun h=>.inl ⟨hpos,h⟩,fun h=>h.elim (fun h=>h.2) (fun h=>absurd hpos h.1)⟩)
    have d1:=(Below.cell HS6.out (p:=⟨ob,oo+dn,none⟩) hob).trans HRA.out
    have d2:=(Below.cell HS6.out (p:=⟨ra,sn,none⟩) hra2).trans hz1
    rw [hsn] at BU
    clear lBU cBU fBU
    obtain ⟨lBU,cBU,fBU⟩:=BU.out
    clear hz1 hz2 s0 s1 hsn
    go_upto_region 25 with (fail)
    go_quiet (fail)
    clear lB1 cB1 fB1 lBU cBU fBU
    clear d1 d2
    replace HW:=h! (eK HW.out nq)
    replace HS6:Hid (fG W6 (wq.drewN nq)):=h! (eK HS6.out nq)
    replace B1:=h! (B1.out.drewN nq)
    replace BU:=h! (BU.out.drewN nq)
    generalize wq.drewN nq=wz at *
    obtain ⟨lB1,cB1,fB1⟩:=B1.out
    obtain ⟨lBU,cBU,fBU⟩:=BU.out
    cases z
    ·have HFA:Hid (fM f bn 6):=h! (.inr ⟨HWAY.out,.inr ⟨HPA.out,.inl ⟨c,u,HU.out,(fun h=>by have:=HZ.out.2 h;cases this),HOK.out,HBN.out.symm,rfl⟩⟩⟩)
     go_wp2
     go_ret2
     exact ⟨_,_,rfl,(fun h=>absurd HC0.out h),(fun _=>HFA.out),HW.out⟩
    have HNX:Hid (∀ v ∈ (uxF f).take (c+1),gI f v):=h! (by
     rw [HTK.out]
     intro v hv
     rcases aO.1 hv with hv | hv
     ·exact HOK.out v hv
     simp at hv;subst hv;exact HZ.out.1 rfl)
    go_wp2
    go_roundw
    case rel=>exact ⟨c+1,hlt,by go_num,HNX.out,HS6.out,HW.out,B1.out⟩
    simp [intOf];omega
   by_cases hdb:dn=bn
   ·have hq:((dn:Int) == (bn:Int))=true:=by simp [hdb]
    obtain ⟨z,hz⟩ : ∃ z,z=decide (k9 < u.pos):=⟨_,rfl⟩
    have HZ:Hid (z=true ↔ gI f u):=h! (by
     rw [hz,decide_eq_true_iff,HUI.out]
     unfold kQ
     exact ⟨fun h=>.inr ⟨hpos,.inl ⟨by omega,h⟩⟩,fun h=>h.elim (fun h=>absurd h.1 hpos) (fun h=>h.2.elim (fun h=>h.2) (fun h=>absurd (by omega) h.1))⟩)
    have HDB:=h! hdb
    clear hdb
    by_cases hkp:k9 < u.pos
    ·have hz9:z=true:=by rw [hz];exact decide_eq_true hkp
     subst hz9
     clear hz
     have HNX:Hid (∀ v ∈ (uxF f).take (c+1),gI f v):=h! (by
      rw [HTK.out]
      intro v hv
      rcases aO.1 hv with hv | hv
      ·exact HOK.out v hv
      simp at hv;subst hv;exact HZ.out.1 rfl)
     go_wp2
     go_roundw
     case rel=>exact ⟨c+1,hlt,by go_num,HNX.out,HS6.out,HW.out,B1.out⟩
     simp [intOf];omega
    have hz9:z=false:=by rw [hz];exact decide_eq_false hkp
    subst hz9
    clear hz
    have HFA:Hid (fM f bn 6):=h! (.inr ⟨HWAY.out,.inr ⟨HPA.out,.inl ⟨c,u,HU.out,(fun h=>by have:=HZ.out.2 h;cases this),HOK.out,HBN.out.symm,rfl⟩⟩⟩)
    go_wp2
    go_ret2
    exact ⟨_,_,rfl,(fun h=>absurd HC0.out h),(fun _=>HFA.out),HW.out⟩
   have hq:((dn:Int) == (bn:Int))=false:=by simp;omega
   have HZ:Hid (y=true ↔ gI f u):=h! (by
    rw [HY2.out,HUI.out]
    unfold kQ
    exact ⟨fun h=>.inr ⟨hpos,.inr ⟨by omega,by simpa using h⟩⟩,fun h=>h.elim (fun h=>absurd h.1 hpos) (fun h=>h.2.elim (fun h=>absurd h.1 (by omega)) (fun h=>by simpa using h.2))⟩)
   have HDB:=h! hdb
   clear hdb
   cases y
   ·have HFA:Hid (fM f bn 6):=h! (.inr ⟨HWAY.out,.inr ⟨HPA.out,.inl ⟨c,u,HU.out,(fun h=>by have:=HZ.out.2 h;cases this),HOK.out,HBN.out.symm,rfl⟩⟩⟩)
    go_wp2
    go_ret2
    exact ⟨_,_,rfl,(fun h=>absurd HC0.out h),(fun _=>HFA.out),HW.out⟩
   have HNX:Hid (∀ v ∈ (uxF f).take (c+1),gI f v):=h! (by
    rw [HTK.out]
    intro v hv
    rcases aO.1 hv with hv | hv
    ·exact HOK.out v hv
    simp at hv;subst hv;exact HZ.out.1 rfl)
   go_wp2
   go_roundw
   case rel=>exact ⟨c+1,hlt,by go_num,HNX.out,HS6.out,HW.out,B1.out⟩
   simp [intOf];omega
  have HFA:Hid (fM f 0 0):=h! (.inr ⟨HWAY.out,.inr ⟨HPA.out,.inr ⟨by have h9:=HOK.out;rw [aI (by have:=HM.out;omega)] at h9;exact h9,rfl,rfl⟩⟩⟩)
  go_wp2
  go_ret2
  exact ⟨_,_,rfl,(fun h=>absurd HC0.out h),(fun _=>HFA.out),HW.out⟩
 have hc1:(eL f != 0)=true:=by simpa using hc0
 have HC0:=h! hc0
 clear hc0
 go_wp2
 go_ret2
 exact ⟨0,eL f,rfl,(fun _=>⟨rfl,rfl⟩),(fun h=>absurd h HC0.out),HW.out⟩
theorem tG:Enters Tryz.prog 135:=enters_of Tryz.func135 (by kernel_rfl) rfl
def zR (f:FuncD) (d k b at_:Int) (w:World) (e:Ending) (w' : World):Prop := ∃ r:Bool,e = .returned (.bool r)/\(r=true ↔ ¬ kQ f d k b at_)/\Below w.heap.size w w'
theorem aH9 {f:FuncD} {w:World} {bs bt bg lg lcap bm:Nat} {g:Array Value} {pv ov lv A2:Value} {O:List Nat} {I:Nat -> Option Nat} (hS:StrM f w bs bt bg lg lcap bm g pv ov lv A2 O I) (hO:gL f O) (hD:DomI f O I) (hc:eL f=0)
  {id d k b at_:Int} {b1 b2 b3:Nat} (he:((entF f).find? fun e=>e.1 == id)=some (id,d,k)) (hd:0 <= d/\d < (f.blocks.length:Int)) (hb:0 <= b/\b < (f.blocks.length:Int))
  (h1:Box w b1 #[.pointer (some ⟨bs,0,none⟩)]) (h2:Box w b2 #[.int .i64 b]) (h3:Box w b3 #[.int .i64 at_]) :
  Calls Tryz.prog 135 #[.int .i64 id,.pointer (some ⟨b1,0,none⟩),.pointer (some ⟨b2,0,none⟩),.pointer (some ⟨b3,0,none⟩)] w (zR f d k b at_ w):=by
 have HA:=h! (ahead hS hO hD hc (at_:=at_) he hd hb)
 obtain ⟨l1,c1,f1⟩:=h1
 obtain ⟨l2,c2,f2⟩:=h2
 obtain ⟨l3,c3,f3⟩:=h3
 clear hS hO hD hc he hd hb
 go_enter Tryz.func135,Tryz.ntmps135
 go_wp2_with fail
 refine HA.out.mono ?_
 rintro e w2 ⟨r,rfl,hr,hb⟩
 have HR:=h! hr
 have HB:=h! hb
 clear hr hb
 cases r
 ·go_wp2
  go_ret
  exact ⟨true,rfl,⟨(fun _ h=>by have:=HR.out.2 h;simp at this),(fun _=>rfl)⟩,HB.out⟩
 ·go_wp2
  go_ret
  exact ⟨false,rfl,⟨(fun h=>by cases h),(fun h=>absurd (HR.out.1 (by trivial)) h)⟩,HB.out⟩
end Go.Proofs.YtcmflfkpeodicaaGreat
