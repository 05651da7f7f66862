/- Part 50. -/
import Derived.Test.YtcmflfkpeodicaaGreatIRA49
namespace Go.Proofs.YtcmflfkpeodicaaGreat
set_option linter.all false
open Go.RowKit
theorem tN {f:FuncD} {u:UseD} {d k:Int} (h:((entF f).find? fun e=>e.1 == u.id)=some (u.id,d,k)):gI f u ↔ ((u.pos < 0/\jX f d.toNat u.src.toNat) \/ (¬ u.pos < 0/\kQ f d k u.blk u.pos)) :=
 ⟨fun ⟨d2,k2,h2,h3⟩=>by rw [h] at h2;cases h2;exact h3,fun h3=>⟨d,k,h,h3⟩⟩
theorem vC (a b:Value) (w:World):(Instr.field 164 (.agg #[a,b]) 0).run Tryz.prog w = .ok a w:=by kernel_rfl
theorem aGT {f:FuncD} (hc:eL f=0) {e:Int × Int × Int} (he:e ∈ entF f):0 <= e.1:=by
 have h1:e.1 ∈ (eR f).map (·.1):=by rw [<-qN hc];exact aY.2 ⟨e,he,rfl⟩
 unfold eR at h1
 rw [bF,aO,kO] at h1
 rcases h1 with h1 | h1
 ·obtain ⟨i,_,h2⟩:=aY.1 h1
  omega
 obtain ⟨p,hp,h2⟩:=aY.1 h1
 have h3:=(eS hc).2
 unfold idsF idsB at h3
 rw [aN,aZ] at h3
 have h4:=h3.2 p hp
 simp at h4
 omega
def xG (f:FuncD) (c:Nat) (x:BlockD) (w:World) (e:Ending) (w' : World):Prop := ∃ r:Bool,e = .returned (.bool r)/\(r=true ↔ ∀ u ∈ uxB (x,c),gI f u)/\Below w.heap.size w w'
theorem oP {f:FuncD} {c:Nat} {x:BlockD} (h:f.blocks[c]? = some x) {u:UseD} (hu:u ∈ uxB (x,c)):u ∈ uxF f:=by
 unfold uxF
 rw [bK]
 exact ⟨(x,c),by rw [bS];exact h,hu⟩
set_option maxHeartbeats 25600000 in
set_option maxRecDepth 100000 in
theorem aIC {f:FuncD} {w:World} {bs bt bg lg lcap bm:Nat} {ap ab:Option Addr} {np cp cb:Nat} {ar ce:Int} {pv ov lv A2:Value} {O:List Nat} {I:Nat -> Option Nat}
  (hS:StrM f w bs bt bg lg lcap bm #[.slice ap np cp,.int .i64 ar,.int .i64 ce,.slice ab f.blocks.length cb] pv ov lv A2 O I) (hB:eQ gF 6 w (.slice ab f.blocks.length cb) f.blocks) (hO:gL f O) (hD:DomI f O I) (hc:eL f=0)
  {c:Nat} {x:BlockD} (hx:f.blocks[c]? = some x) :
  Calls Tryz.prog 78 #[.pointer (some ⟨bs,0,none⟩),.int .i64 c] w (xG f c x w):=by
 have HC0:=h! hc
 have HS:=h! hS
 have HO:=h! hO
 have HD:=h! hD
 have HX:=h! hx
 have h512:=(gV (eS hc).1).2
 have hcl:=(aE.1 hx).1
 obtain ⟨a2,c2,bb,bo,hbe,hbc,hbm,hbl,hba,hbx⟩:=eW hB
 cases hbe
 obtain ⟨nb,hnb⟩ : ∃ nb,nb=f.blocks.length:=⟨_,rfl⟩
 rw [<-hnb] at hbc hba hbl h512 hcl HS
 obtain ⟨rfl,hbw⟩:=hba (by omega)
 have HNB:=h! hnb
 obtain ⟨api,aii,ati,cpi,cii,cti,hC⟩:=hbx c x hx
 have HC:=h! hC
 have HOV:Hid (∀ (W:World) (a b:Nat),Below w.heap.size w W -> a < nb -> b < nb -> Calls Tryz.prog 134 #[.pointer (some ⟨bt,0,none⟩),.int .i64 a,.int .i64 b] W fun e w' => ∃ r:Bool,e = .returned (.bool r)/\(r=true ↔ jX f a b)/\W=w'):=h! (fun W a b hW ha hb=>by
  refine vO (a:=a) (b:=b) (hS.t.later hW) hO hD (by rw [<-hnb];exact h512) (by rw [<-hnb];exact ha) (by rw [<-hnb];exact hb))
 have HUD:Hid (∀ u ∈ uxB (x,c), ∃ d k:Nat -> Int,True):=h! (fun u _=>⟨fun _=>0,fun _=>0,trivial⟩)
 have hB1:=hC.phis
 have hB2:=hC.code
 obtain ⟨pl,hpl2⟩ : ∃ pl,pl=x.phis.length:=⟨_,rfl⟩
 obtain ⟨cl,hcl2⟩ : ∃ cl,cl=x.code.length:=⟨_,rfl⟩
 obtain ⟨ac,capc,bcd,ocd,hce1,hcc,hcm,hcl16,hca,hcx⟩:=gC hB2
 obtain ⟨apx,capp,bph,oph,hpe1,hppc,hppm,hpl16,hpa2,hpx2⟩:=fV hB1
 rw [<-hpl2] at hpe1 hppc hpl16 hpa2
 rw [<-hcl2] at hce1 hcc hcl16 hca
 cases hpe1
 cases hce1
 have HPL:=h! hpl2
 have HCL:=h! hcl2
 have HPA2:=h! hpa2
 have HPX2:=h! hpx2
 have HCA2:=h! hca
 have HCX2:=h! hcx
 have HT0:=h! hS.t.cells.1
 have HG3:Hid (w.cell? ⟨bg,3,none⟩=some (.slice (some ⟨bb,bo,none⟩) nb cb)):=h! (by have h9:=hS.t.graph.at 3 rfl;rw [hnb];exact h9)
 have HTL:=h! hS.t.tree.lt
 have HGL:=h! hS.t.graph.lt
 clear hS hB hO hD hc hx hC hB1 hB2 hpl2 hcl2 hpa2 hpx2 hca hcx hba hbx hnb HUD
 go_enter Tryz.func78,Tryz.ntmps78
 go_upto_region 1 with (fail)
 have hA_:=(Below.refl w.heap.size w).alloc (aF _) (.cells #[.pointer (some ⟨bs,0,none⟩)] 70)
 have HW:=h! hA_
 clear hA_
 have B1:=h! (Box.new w #[.pointer (some ⟨bs,0,none⟩)] 70)
 have hz0_:(w.alloc (.cells #[.pointer (some ⟨bs,0,none⟩)] 70)).heap.size=w.heap.size+1:=World.size_alloc _ _
 generalize w.alloc (.cells #[.pointer (some ⟨bs,0,none⟩)] 70)=wv0 at *
 have hA_:=(Below.refl wv0.heap.size wv0).alloc (aF _) (.cells #[.int .i64 c] 3)
 replace B1:=h! (B1.out.later hA_)
 replace HW:=h! (HW.out.trans (hA_.mono HW.out.size))
 clear hA_
 have B2:=h! (Box.new wv0 #[.int .i64 c] 3)
 rw [hz0_] at B2
 clear hz0_
 generalize wv0.alloc (.cells #[.int .i64 c] 3)=wv at *
 obtain ⟨lB1,cB1,fB1⟩:=B1.out
 obtain ⟨lB2,cB2,fB2⟩:=B2.out
 refine wp_region_grow 15 (fun kz=>match kz with | 14=>.made wv.heap.size (fun b=>.pointer (some ⟨b,0,none⟩)) #[.slice none 0 0,.slice none 0 0,.int .i64 0,.int .i64 0,.slice none 0 0,.int .i64 0] | _=>.plain) (by kernel_rfl) (by kernel_rfl) ?_ (fun ν => ?_)
 ·(intro k;(try dsimp only);split <;> first | exact True.intro | (intro u w1 w2 hu hb;exact hu.below hb))
 simp only [aK,aR,aM,aT]
 iterate 14 (refine Grow.val (v := ?_) rfl rfl (fun wg hbg hdg => ?_) ?_;rotate_left;(focus ((obtain ⟨lg0,cg0,fg0⟩:=B1.out.later hbg);(obtain ⟨lg1,cg1,fg1⟩:=B2.out.later hbg);(obtain ⟨xl1,xc1,xf1⟩:=(HS.out.later (HW.out.trans (hbg.mono HW.out.size))).s;have xt:=((HW.out.trans (hbg.mono HW.out.size)).cell (p:=⟨bt,0,none⟩) HTL.out).trans HT0.out;have xg:=((HW.out.trans (hbg.mono HW.out.size)).cell (p:=⟨bg,3,none⟩) HGL.out).trans HG3.out;obtain ⟨k0,k1,k2,k3,k4,k5, -, -, -, -, -, -⟩:=HC.out.below (HW.out.trans (hbg.mono HW.out.size)) hbw);clear hbg hdg;first | (go_simp;done) | (go_simp;with_reducible rfl)));simp only [Act.put,aA,aC,aD])
 refine Grow.made (T := ?_) rfl rfl (fun wg hbg hdg => ?_) ?_
 rotate_left
 focus ((obtain ⟨lg0,cg0,fg0⟩:=B1.out.later hbg);(obtain ⟨lg1,cg1,fg1⟩:=B2.out.later hbg);(obtain ⟨xl1,xc1,xf1⟩:=(HS.out.later (HW.out.trans (hbg.mono HW.out.size))).s;have xt:=((HW.out.trans (hbg.mono HW.out.size)).cell (p:=⟨bt,0,none⟩) HTL.out).trans HT0.out;have xg:=((HW.out.trans (hbg.mono HW.out.size)).cell (p:=⟨bg,3,none⟩) HGL.out).trans HG3.out;obtain ⟨k0,k1,k2,k3,k4,k5, -, -, -, -, -, -⟩:=HC.out.below (HW.out.trans (hbg.mono HW.out.size)) hbw);clear hbg hdg;first | (go_simp;done) | (go_simp;with_reducible rfl))
 simp only [Act.put,Known.val,aA,aC,aD]
 intro wg hb hf hap
 obtain ⟨bBK,hνBK,hBBK,hXBK⟩:=hf 14 (by omega)
 have nBKB1:bBK ≠ w.heap.size:=fun e=>by have:=lB1;omega
 have nB1BK:w.heap.size ≠ bBK:=fun e=>nBKB1 e.symm
 have nBKB2:bBK ≠ w.heap.size+1:=fun e=>by have:=lB2;omega
 have nB2BK:w.heap.size+1 ≠ bBK:=fun e=>nBKB2 e.symm
 simp only [hνBK]
 clear hνBK
 clear hap
 have gBK:=aJ HW.out.size hBBK
 clear hBBK
 clear lB1 cB1 fB1 lB2 cB2 fB2
 replace B1:=h! (B1.out.later hb)
 replace B2:=h! (B2.out.later hb)
 replace HW:=h! (HW.out.trans (hb.mono HW.out.size))
 clear hb
 have BK:=h! hXBK
 clear hXBK
 obtain ⟨lB1,cB1,fB1⟩:=B1.out
 obtain ⟨lB2,cB2,fB2⟩:=B2.out
 obtain ⟨lBK,cBK,fBK⟩:=BK.out
 clear hf
 go_upto_region 2 with (fail)
 clear lB1 cB1 fB1 lB2 cB2 fB2 lBK cBK fBK
 have hO_:=((((((Only.set wg (bBK) 0 (.slice api x.phis.length cpi)).put 1 (.slice aii x.code.length cii)).put 2 (.int .i64 x.term.op)).put 3 (.int .i64 x.term.val)).put 4 (.slice ati x.term.to.length cti)).put 5 (.int .i64 x.term.n))
 replace B1:=h! (B1.out.only hO_ (by first | assumption | (simp;done) | omega))
 replace B2:=h! (B2.out.only hO_ (by first | assumption | (simp;done) | omega))
 replace HW:=h! (hO_.2.2 HW.out (by first | assumption | omega | (have:=HW.out.size;omega) | (simp;done) | (simp;omega)))
 replace BK:=h! (Box.to (A':=#[(.slice api x.phis.length cpi),(.slice aii x.code.length cii),(.int .i64 x.term.op),(.int .i64 x.term.val),(.slice ati x.term.to.length cti),(.int .i64 x.term.n)]) ((((((BK.out.set 0 (.slice api x.phis.length cpi)).set 1 (.slice aii x.code.length cii)).set 2 (.int .i64 x.term.op)).set 3 (.int .i64 x.term.val)).set 4 (.slice ati x.term.to.length cti)).set 5 (.int .i64 x.term.n)) (by first | rfl | simp))
 clear hO_
 generalize ((((((wg.setCell ⟨bBK,0,none⟩ (.slice api x.phis.length cpi)).setCell ⟨bBK,1,none⟩ (.slice aii x.code.length cii)).setCell ⟨bBK,2,none⟩ (.int .i64 x.term.op)).setCell ⟨bBK,3,none⟩ (.int .i64 x.term.val)).setCell ⟨bBK,4,none⟩ (.slice ati x.term.to.length cti)).setCell ⟨bBK,5,none⟩ (.int .i64 x.term.n))=w2 at *
 obtain ⟨lB1,cB1,fB1⟩:=B1.out
 obtain ⟨lB2,cB2,fB2⟩:=B2.out
 obtain ⟨lBK,cBK,fBK⟩:=BK.out
 rw [<-HPL.out, <-HCL.out] at BK
 clear lB1 cB1 fB1 lB2 cB2 fB2 lBK cBK fBK
 obtain ⟨lB1,cB1,fB1⟩:=B1.out
 obtain ⟨lB2,cB2,fB2⟩:=B2.out
 obtain ⟨lBK,cBK,fBK⟩:=BK.out
 go_wp2_with fail
 go_loopw [30] (fun i wr => ∃ j:Nat,j <= pl/\i = .int .i64 j/\(∀ u ∈ (x.phis.take j).flatMap (uxP c),gI f u)/\Below w.heap.size w wr/\Box wr w.heap.size #[.pointer (some ⟨bs,0,none⟩)]/\Box wr (w.heap.size+1) #[.int .i64 c]/\Box wr bBK #[.slice api pl cpi,.slice aii cl cii,.int .i64 x.term.op,.int .i64 x.term.val,.slice ati x.term.to.length cti,.int .i64 x.term.n]) (fun i _=>pl - (intOf i).toNat)
 case atStart=>exact ⟨0,aP _,rfl,by simp,HW.out,B1.out,B2.out,BK.out⟩
 case round =>
  obtain ⟨j,hj,rfl,hok,hW,h1,h2,h3⟩:=hrel
  clear lB1 cB1 fB1 lB2 cB2 fB2 lBK cBK fBK
  have HOK:=h! hok
  replace HW:=h! hW
  replace B1:=h! h1
  replace B2:=h! h2
  replace BK:=h! h3
  clear hok hW h1 h2 h3
  generalize wr=w3 at *
  obtain ⟨lB1,cB1,fB1⟩:=B1.out
  obtain ⟨lB2,cB2,fB2⟩:=B2.out
  obtain ⟨lBK,cBK,fBK⟩:=BK.out
  by_cases hlt:j < pl
  ·obtain ⟨rfl,hbp⟩:=HPA2.out (by omega)
   obtain ⟨p,hkp⟩ : ∃ p,x.phis[j]? = some p:=⟨_,aB (by have:=HPL.out;omega)⟩
   obtain ⟨af,av,cf,cv,hP⟩:=HPX2.out j p hkp
   obtain ⟨m0,m1,m2,m3,r1,r2,r3,r4⟩:=hP.below HW.out hbp
   have HPM:=h! (aG hkp)
   have HTK:=h! (gH (uxP c) x.phis j p hkp)
   obtain ⟨hlen,hv512⟩:=(kF (eS HC0.out).1).phi x (aG HX.out) p (aG hkp)
   obtain ⟨vl,hvl⟩ : ∃ vl,vl=p.vals.length:=⟨_,rfl⟩
   rw [hlen, <-hvl] at m2
   rw [<-hvl] at m3 hv512
   have HLEN:=h! hlen
   have HVL:=h! hvl
   obtain ⟨av',cv',bv,ov2,hve,hvc,hvm,hva,hvx⟩:=hP.vals.parts
   rw [<-hvl] at hve hvc hva hvx
   cases hve
   obtain ⟨af',cf',bf,of2,hfe,hfc,hfm,hfa,hfx⟩:=hP.src.parts
   rw [hlen, <-hvl] at hfe hfc hfa hfx
   cases hfe
   have HVA:=h! hva
   have HVX:=h! hvx
   have HFA2:=h! hfa
   have HFX:=h! hfx
   clear r1 r2 r3 r4 hP hkp hlen hvl hva hvx hfa hfx
   go_upto_region 5 with (fail)
   have nBPB1:w3.heap.size ≠ w.heap.size:=fun e=>by have:=lB1;omega
   have nB1BP:w.heap.size ≠ w3.heap.size:=fun e=>nBPB1 e.symm
   have nBPB2:w3.heap.size ≠ w.heap.size+1:=fun e=>by have:=lB2;omega
   have nB2BP:w.heap.size+1 ≠ w3.heap.size:=fun e=>nBPB2 e.symm
   have nBPBK:w3.heap.size ≠ bBK:=fun e=>by have:=lBK;omega
   have nBKBP:bBK ≠ w3.heap.size:=fun e=>nBPBK e.symm
   clear lB1 cB1 fB1 lB2 cB2 fB2 lBK cBK fBK
   have hA_:=(Below.refl w3.heap.size w3).alloc (aF _) (.cells #[.int .i64 p.id,.int .i64 p.typ,.slice af vl cf,.slice av vl cv] 113)
   replace B1:=h! (B1.out.later hA_)
   replace B2:=h! (B2.out.later hA_)
   replace BK:=h! (BK.out.later hA_)
   replace HW:=h! (HW.out.trans (hA_.mono HW.out.size))
   clear hA_
   have BP:=h! (Box.new w3 #[.int .i64 p.id,.int .i64 p.typ,.slice af vl cf,.slice av vl cv] 113)
   generalize w3.alloc (.cells #[.int .i64 p.id,.int .i64 p.typ,.slice af vl cf,.slice av vl cv] 113)=w4 at *
   obtain ⟨lB1,cB1,fB1⟩:=B1.out
   obtain ⟨lB2,cB2,fB2⟩:=B2.out
   obtain ⟨lBK,cBK,fBK⟩:=BK.out
   obtain ⟨lBP,cBP,fBP⟩:=BP.out
   clear m0 m1 m2 m3
   go_wp2_with fail
   go_loopw [37] (fun i wr => ∃ q:Nat,q <= vl/\i = .int .i64 q/\(∀ u ∈ (uxP c p).take q,gI f u)/\Below w.heap.size w wr/\Box wr w.heap.size #[.pointer (some ⟨bs,0,none⟩)]/\Box wr (w.heap.size+1) #[.int .i64 c]/\Box wr bBK #[.slice (some ⟨bph,oph,none⟩) pl cpi,.slice aii cl cii,.int .i64 x.term.op,.int .i64 x.term.val,.slice ati x.term.to.length cti,.int .i64 x.term.n]/\Box wr w3.heap.size #[.int .i64 p.id,.int .i64 p.typ,.slice af vl cf,.slice av vl cv]) (fun i _=>vl - (intOf i).toNat)
   case atStart=>exact ⟨0,aP _,rfl,by simp,HW.out,B1.out,B2.out,BK.out,BP.out⟩
   obtain ⟨q,hq,rfl,hok,hW,h1,h2,h3,h4⟩:=hrel
   clear lB1 cB1 fB1 lB2 cB2 fB2 lBK cBK fBK lBP cBP fBP
   have HOK2:=h! hok
   replace HW:=h! hW
   replace B1:=h! h1
   replace B2:=h! h2
   replace BK:=h! h3
   replace BP:=h! h4
   clear hok hW h1 h2 h3 h4
   generalize wr=w5 at *
   obtain ⟨lB1,cB1,fB1⟩:=B1.out
   obtain ⟨lB2,cB2,fB2⟩:=B2.out
   obtain ⟨lBK,cBK,fBK⟩:=BK.out
   obtain ⟨lBP,cBP,fBP⟩:=BP.out
   by_cases hltq:q < vl
   ·obtain ⟨rfl,hbv⟩:=HVA.out (by omega)
    obtain ⟨rfl,hbf⟩:=HFA2.out (by omega)
    have hcv:=(HW.out.cell (p:=⟨bv,ov2+q,none⟩) hbv).trans (HVX.out q hltq)
    obtain ⟨y,hy⟩ : ∃ y,y=p.vals.getD q 0:=⟨_,rfl⟩
    obtain ⟨z,hz⟩ : ∃ z,z=p.src.getD q 0:=⟨_,rfl⟩
    rw [<-hy] at hcv
    have CF:=h! ((HW.out.cell (p:=⟨bf,of2+q,none⟩) hbf).trans (HFX.out q hltq))
    rw [<-hz] at CF
    have CFl:=World.block_lt_of_cell? w5 _ CF.out
    have hu:(uxP c p)[q]? = some ⟨y,p.typ,c, -1,z⟩:=by
     unfold uxP
     have hzz:(p.vals.zip p.src)[q]? = some (p.vals.getD q 0,p.src.getD q 0):=cT.2 ⟨eX p.vals q (by rw [<-HVL.out];exact hltq),eX p.src q (by rw [HLEN.out, <-HVL.out];exact hltq)⟩
     rw [aU,hzz]
     rw [hy,hz];rfl
    have HTK2:=h! (eP _ _ _ hu)
    have HUM:Hid ((⟨y,p.typ,c, -1,z⟩ : UseD) ∈ uxB (x,c)):=h! (by
     unfold uxB
     rw [bV,aO]
     left
     rw [bK]
     exact ⟨p,HPM.out,aG hu⟩)
    obtain ⟨d,k,hfd,hd0,hd1⟩:=mQ HC0.out (oP HX.out HUM.out)
    obtain ⟨-, -,hr2⟩:=rK (eS HC0.out).1 (oP HX.out HUM.out)
    obtain ⟨hs0,hs1⟩:=hr2 (by show (-1:Int) < 0;omega)
    obtain ⟨dn,rfl⟩ : ∃ dn:Nat,d=(dn:Int):=⟨d.toNat,by omega⟩
    obtain ⟨sn,hsn⟩ : ∃ sn:Nat,z=(sn:Int):=⟨z.toNat,by simp only at hs0;omega⟩
    have hdl:dn < nb:=by have:=HNB.out;omega
    have hsl:sn < nb:=by have:=HNB.out;simp only at hs1;omega
    obtain ⟨r,hr⟩ : ∃ r:Bool,r=true ↔ jX f dn sn:=by
     rcases Classical.em (jX f dn sn) with h | h
     ·exact ⟨true,by simp [h]⟩
     exact ⟨false,by simp [h]⟩
    have HR:Hid (r=true ↔ gI f ⟨y,p.typ,c, -1,z⟩):=h! (by
     rw [tN hfd,hr]
     have:(-1:Int) < 0:=by omega
     simp [hsn,this])
    have HCT:Hid (∀ wg,Below w5.heap.size w5 wg -> Calls Tryz.prog 134 #[.pointer (some ⟨bt,0,none⟩),.int .i64 dn,.int .i64 sn] wg fun e w'=>e = .returned (.bool r)/\Below wg.heap.size wg w'):=h! (fun wg hbg=>by
     refine (HOV.out wg dn sn (HW.out.trans (hbg.mono HW.out.size)) hdl hsl).mono ?_
     rintro e w' ⟨r2,rfl,hr2,rfl⟩
     obtain rfl:r2=r:=by rw [cC,hr2,hr]
     exact ⟨rfl,Below.refl _ _⟩)
    have HLK:Hid (∀ wg,Below w5.heap.size w5 wg -> (Instr.lookup 90 (.map (some bm)) (.int .i64 y) false).run Tryz.prog wg = .ok (.agg #[.int .i64 dn,.int .i64 k]) wg):=h! (fun wg hbg=>by
     rw [((HS.out.later (HW.out.trans (hbg.mono HW.out.size))).mp).lookup0 Tryz.underlying90 Tryz.underlying3 (tF _) y,zH HC0.out,hfd];rfl)
    rw [hsn] at CF
    clear hy hz hu hfd hd0 hd1 hr2 hs0 hs1 hr
    go_upto_region 8 with (fail)
    clear hcv
    refine wp_region_grow 18 (fun kz=>match kz with | 16=>.const (.bool r) | _=>.plain) (by kernel_rfl) (by kernel_rfl) ?_ (fun ν => ?_)
    ·(intro k;(try dsimp only);split <;> first | exact True.intro | (intro u w1 w2 hu hb;exact hu.below hb))
    simp only [aK,aR,aM,aT]
    iterate 16 (refine Grow.val (v := ?_) rfl rfl (fun wg hbg hdg => ?_) ?_;rotate_left;(focus ((obtain ⟨lg0,cg0,fg0⟩:=B1.out.later hbg);(obtain ⟨lg1,cg1,fg1⟩:=B2.out.later hbg);(obtain ⟨lg2,cg2,fg2⟩:=BK.out.later hbg);(obtain ⟨lg3,cg3,fg3⟩:=BP.out.later hbg);(obtain ⟨xl1,xc1,xf1⟩:=(HS.out.later (HW.out.trans (hbg.mono HW.out.size))).s;have hlk:=HLK.out wg hbg;have hfl:=vC (.int .i64 dn) (.int .i64 k) wg;have hcf:=(hbg.cell (p:=⟨bf,of2+q,none⟩) CFl).trans CF.out);clear hbg hdg;first | (go_simp;done) | (go_simp;with_reducible rfl)));simp only [Act.put,aA,aC,aD])
    refine Grow.call (f := ?_) (args := ?_) rfl (fun wg => ?_) (fun wg hbg hdg => ?_) ?_
    rotate_left 2
    focus (first | (go_simp;done) | (go_simp;refine And.intro ?_ ?_ <;> with_reducible rfl) | (go_simp;with_reducible rfl))
    focus exact Calls.mono (HCT.out wg hbg) (fun e w2 ⟨he,hb2⟩=>⟨_,he,rfl,hb2⟩)
    simp only [Act.put,Known.val,aA,aC,aD]
    refine Grow.val (v := ?_) rfl rfl (fun wg hbg hdg => ?_) ?_
    rotate_left
    focus ((obtain ⟨lg0,cg0,fg0⟩:=B1.out.later hbg);(obtain ⟨lg1,cg1,fg1⟩:=B2.out.later hbg);(obtain ⟨lg2,cg2,fg2⟩:=BK.out.later hbg);(obtain ⟨lg3,cg3,fg3⟩:=BP.out.later hbg);(obtain ⟨xl1,xc1,xf1⟩:=(HS.out.later (HW.out.trans (hbg.mono HW.out.size))).s;have hlk:=HLK.out wg hbg;have hfl:=vC (.int .i64 dn) (.int .i64 k) wg;have hcf:=(hbg.cell (p:=⟨bf,of2+q,none⟩) CFl).trans CF.out);clear hbg hdg;first | (go_simp;done) | (go_simp;with_reducible rfl))
    simp only [Act.put,aA,aC,aD]
    intro wg hb hf hap
    clear hap
    clear lB1 cB1 fB1 lB2 cB2 fB2 lBK cBK fBK lBP cBP fBP
    replace B1:=h! (B1.out.later hb)
    replace B2:=h! (B2.out.later hb)
    replace BK:=h! (BK.out.later hb)
    replace BP:=h! (BP.out.later hb)
    replace HW:=h! (HW.out.trans (hb.mono HW.out.size))
    clear hb
    obtain ⟨lB1,cB1,fB1⟩:=B1.out
    obtain ⟨lB2,cB2,fB2⟩:=B2.out
    obtain ⟨lBK,cBK,fBK⟩:=BK.out
    obtain ⟨lBP,cBP,fBP⟩:=BP.out
    clear hf
    cases r
    ·have HBAD:Hid (¬ ∀ u ∈ uxB (x,c),gI f u):=h! (fun h=>by have:=HR.out.2 (h _ HUM.out);simp at this)
     go_wp2
     go_ret
     exact ⟨false,rfl,⟨(fun h=>by cases h),(fun h=>absurd h HBAD.out)⟩,HW.out⟩
    have HNX:Hid (∀ u ∈ (uxP c p).take (q+1),gI f u):=h! (by
     rw [HTK2.out]
     intro v hv
     rcases aO.1 hv with hv | hv
     ·exact HOK2.out v hv
     rw [cZ] at hv;rw [hv];exact HR.out.1 (by trivial))
    go_wp2
    go_roundw
    case rel=>exact ⟨q+1,hltq,by go_num,HNX.out,HW.out,B1.out,B2.out,BK.out,BP.out⟩
    simp [intOf];omega
   have HNX:Hid (∀ u ∈ (x.phis.take (j+1)).flatMap (uxP c),gI f u):=h! (by
    rw [HTK.out]
    intro v hv
    rcases aO.1 hv with hv | hv
    ·exact HOK.out v hv
    refine HOK2.out v ?_
    rw [aI (by unfold uxP;rw [bD,eJ,HLEN.out, <-HVL.out];omega)]
    exact hv)
   go_wp2
   go_roundw
   case rel=>exact ⟨j+1,hlt,by go_num,HNX.out,HW.out,B1.out,B2.out,BK.out⟩
   simp [intOf];omega
  have HPHI:Hid (∀ u ∈ x.phis.flatMap (uxP c),gI f u):=h! (by have h9:=HOK.out;rw [aI (by have:=HPL.out;omega)] at h9;exact h9)
  clear HOK
  go_wp2_with fail
  go_loopw [65] (fun i wr => ∃ j2:Nat,j2 <= cl/\i = .int .i64 j2/\(∀ u ∈ (x.code.zipIdx.take j2).flatMap (uxI c),gI f u)/\Below w.heap.size w wr/\Box wr w.heap.size #[.pointer (some ⟨bs,0,none⟩)]/\Box wr (w.heap.size+1) #[.int .i64 c]/\Box wr bBK #[.slice api pl cpi,.slice aii cl cii,.int .i64 x.term.op,.int .i64 x.term.val,.slice ati x.term.to.length cti,.int .i64 x.term.n]) (fun i _=>cl - (intOf i).toNat)
  case atStart=>exact ⟨0,aP _,rfl,by simp,HW.out,B1.out,B2.out,BK.out⟩
  obtain ⟨j2,hj2,rfl,hok,hW,h1,h2,h3⟩:=hrel
  clear lB1 cB1 fB1 lB2 cB2 fB2 lBK cBK fBK
  have HOK:=h! hok
  replace HW:=h! hW
  replace B1:=h! h1
  replace B2:=h! h2
  replace BK:=h! h3
  clear hok hW h1 h2 h3
  generalize wr=w5 at *
  obtain ⟨lB1,cB1,fB1⟩:=B1.out
  obtain ⟨lB2,cB2,fB2⟩:=B2.out
  obtain ⟨lBK,cBK,fBK⟩:=BK.out
  by_cases hlt3:j2 < cl
  ·obtain ⟨rfl,hbp⟩:=HCA2.out (by omega)
   obtain ⟨y,hky⟩ : ∃ y,x.code[j2]? = some y:=⟨_,aB (by have:=HCL.out;omega)⟩
   obtain ⟨aa,ca,hP⟩:=HCX2.out j2 y hky
   obtain ⟨m0,m1,m2,m3,r1,r2,r3,r4⟩:=hP.below HW.out hbp
   have hz:x.code.zipIdx[j2]? = some (y,j2):=by rw [cN,hky];simp
   have HTK:=h! (gH (uxI c) x.code.zipIdx j2 (y,j2) hz)
   have HYM:=h! (aG hz)
   have HAL:=h! ((kF (eS HC0.out).1).args x (aG HX.out) y (aG hky))
   have HARG:=h! hP.args
   obtain ⟨al,hal⟩ : ∃ al,al=y.args.length:=⟨_,rfl⟩
   rw [<-hal] at HARG m2
   clear r1 r2 r3 r4 hP hky hz hal
   have HUI:Hid (∀ u ∈ uxI c (y,j2),u ∈ uxB (x,c)):=h! (fun u hu=>by
    unfold uxB
    rw [bV,aO]
    right
    rw [aO]
    left
    rw [bK]
    exact ⟨(y,j2),HYM.out,hu⟩)
   obtain ⟨AV,hAV⟩ : ∃ AV:Int -> Prop,AV=fun v => ∃ d k,((entF f).find? fun e=>e.1 == v)=some (v,d,k)/\kQ f d k c j2:=⟨_,rfl⟩
   have HAV:=h! hAV
   have HUO:Hid (∀ u ∈ uxI c (y,j2),gI f u ↔ AV u.id):=h! (fun u hu=>by
    obtain ⟨d,k,hfd, -, -⟩:=mQ HC0.out (oP HX.out (HUI.out u hu))
    rw [tN hfd,hAV]
    unfold uxI at hu
    rw [aY] at hu
    obtain ⟨a,ha,rfl⟩:=hu
    have hn:¬ ((j2:Nat):Int) < 0:=by omega
    constructor
    ·rintro (h | h)
     ·exact absurd h.1 hn
     exact ⟨d,k,hfd,h.2⟩
    rintro ⟨d2,k2,h2,h3⟩
    rw [hfd] at h2
    cases h2
    exact .inr ⟨hn,h3⟩)
   obtain ⟨g,hg⟩ : ∃ g:Int -> Bool, ∀ v,g v=true ↔ ¬ AV v:=⟨fun v=>@decide (¬ AV v) (Classical.propDecidable _),fun v=>@decide_eq_true_iff _ (Classical.propDecidable _)⟩
   have HG:=h! hg
   have HST:Hid (∀ (W:World) (v:Int),v ∈ y.args -> Below w.heap.size w W -> ∀ b3,Box W w.heap.size #[.pointer (some ⟨bs,0,none⟩)] -> Box W (w.heap.size+1) #[.int .i64 c] -> Box W b3 #[.int .i64 j2] ->
     Calls Tryz.prog 135 #[.int .i64 v,.pointer (some ⟨w.heap.size,0,none⟩),.pointer (some ⟨w.heap.size+1,0,none⟩),.pointer (some ⟨b3,0,none⟩)] W fun e W'=>e = .returned (.bool (g v))/\Below W.heap.size W W'):=h! (fun W v hv hW b3 h1 h2 h3=>by
    obtain ⟨i,hi⟩:=bJ.1 hv
    have hil:=(aE.1 hi).1
    have hu:(⟨v,(shp0 y.op).args.getD i 0,c,j2,0⟩ : UseD) ∈ uxI c (y,j2):=by
     unfold uxI
     rw [aY]
     refine ⟨(v,(shp0 y.op).args.getD i 0), ?_,rfl⟩
     have hzz:(y.args.zip (shp0 y.op).args)[i]? = some (v,(shp0 y.op).args.getD i 0):=cT.2 ⟨hi,eX _ i (by rw [<-HAL.out];exact hil)⟩
     exact aG hzz
    obtain ⟨d,k,hfd,hd0,hd1⟩:=mQ HC0.out (oP HX.out (HUI.out _ hu))
    have hS9:=HS.out.later hW
    rw [HNB.out] at hS9
    refine (aH9 hS9 HO.out HD.out HC0.out (at_:=(j2:Int)) hfd ⟨hd0,hd1⟩ ⟨by omega,by rw [<-HNB.out];omega⟩ h1 h2 h3).mono ?_
    rintro e W' ⟨r,rfl,hr,hb⟩
    have:g v=r:=by
     rw [cC,hr,HG.out v,HAV.out]
     constructor
     ·intro h h2;exact h ⟨d,k,hfd,h2⟩
     rintro h ⟨d2,k2,h2,h3⟩
     rw [hfd] at h2
     cases h2
     exact h h3
    rw [this]
    exact ⟨rfl,hb⟩)
   clear hAV hg
   go_upto_region 15 with (fail)
   have nB10B1:w5.heap.size ≠ w.heap.size:=fun e=>by have:=lB1;omega
   have nB1B10:w.heap.size ≠ w5.heap.size:=fun e=>nB10B1 e.symm
   have nB10B2:w5.heap.size ≠ w.heap.size+1:=fun e=>by have:=lB2;omega
   have nB2B10:w.heap.size+1 ≠ w5.heap.size:=fun e=>nB10B2 e.symm
   have nB10BK:w5.heap.size ≠ bBK:=fun e=>by have:=lBK;omega
   have nBKB10:bBK ≠ w5.heap.size:=fun e=>nB10BK e.symm
   have nB11B1:w5.heap.size+1 ≠ w.heap.size:=fun e=>by have:=lB1;omega
   have nB1B11:w.heap.size ≠ w5.heap.size+1:=fun e=>nB11B1 e.symm
   have nB11B2:w5.heap.size+1 ≠ w.heap.size+1:=fun e=>by have:=lB2;omega
   have nB2B11:w.heap.size+1 ≠ w5.heap.size+1:=fun e=>nB11B2 e.symm
   have nB11BK:w5.heap.size+1 ≠ bBK:=fun e=>by have:=lBK;omega
   have nBKB11:bBK ≠ w5.heap.size+1:=fun e=>nB11BK e.symm
   have nB11B10:w5.heap.size+1 ≠ w5.heap.size:=by omega
   have nB10B11:w5.heap.size ≠ w5.heap.size+1:=by omega
   clear lB1 cB1 fB1 lB2 cB2 fB2 lBK cBK fBK
   have hA_:=(Below.refl w5.heap.size w5).alloc (aF _) (.cells #[.int .i64 j2] 3)
   replace B1:=h! (B1.out.later hA_)
   replace B2:=h! (B2.out.later hA_)
   replace BK:=h! (BK.out.later hA_)
   replace HW:=h! (HW.out.trans (hA_.mono HW.out.size))
   clear hA_
   have B10:=h! (Box.new w5 #[.int .i64 j2] 3)
   have hz0_:(w5.alloc (.cells #[.int .i64 j2] 3)).heap.size=w5.heap.size+1:=World.size_alloc _ _
   generalize w5.alloc (.cells #[.int .i64 j2] 3)=w6x0 at *
   have hA_:=(Below.refl w6x0.heap.size w6x0).alloc (aF _) (.cells #[.int .i64 y.op,.int .i64 y.id,.slice aa al ca,.int .i64 y.n] 69)
   replace B1:=h! (B1.out.later hA_)
   replace B2:=h! (B2.out.later hA_)
   replace BK:=h! (BK.out.later hA_)
   replace B10:=h! (B10.out.later hA_)
   replace HW:=h! (HW.out.trans (hA_.mono HW.out.size))
   clear hA_
   have B11:=h! (Box.new w6x0 #[.int .i64 y.op,.int .i64 y.id,.slice aa al ca,.int .i64 y.n] 69)
   rw [hz0_] at B11
   clear hz0_
   generalize w6x0.alloc (.cells #[.int .i64 y.op,.int .i64 y.id,.slice aa al ca,.int .i64 y.n] 69)=w6 at *
   obtain ⟨lB1,cB1,fB1⟩:=B1.out
   obtain ⟨lB2,cB2,fB2⟩:=B2.out
   obtain ⟨lBK,cBK,fBK⟩:=BK.out
   obtain ⟨lB10,cB10,fB10⟩:=B10.out
   obtain ⟨lB11,cB11,fB11⟩:=B11.out
   clear m0 m1 m2 m3
   go_wp2_with fail
   refine (aCU tG g (HARG.out.below HW.out) (fun W v hv hW=>HST.out W v hv (HW.out.trans (hW.mono HW.out.size)) _ (B1.out.later hW) (B2.out.later hW) (B10.out.later hW))).mono ?_
   rintro e w7 ⟨he,hb⟩
   obtain ⟨q,hq⟩ : ∃ q,q=y.args.any g:=⟨_,rfl⟩
   rw [<-hq] at he
   subst he
   have HQ:=h! hq
   clear hq
   clear lB1 cB1 fB1 lB2 cB2 fB2 lBK cBK fBK lB10 cB10 fB10 lB11 cB11 fB11
   replace B1:=h! (B1.out.later hb)
   replace B2:=h! (B2.out.later hb)
   replace BK:=h! (BK.out.later hb)
   replace B10:=h! (B10.out.later hb)
   replace B11:=h! (B11.out.later hb)
   replace HW:=h! (HW.out.trans (hb.mono HW.out.size))
   clear hb
   obtain ⟨lB1,cB1,fB1⟩:=B1.out
   obtain ⟨lB2,cB2,fB2⟩:=B2.out
   obtain ⟨lBK,cBK,fBK⟩:=BK.out
   obtain ⟨lB10,cB10,fB10⟩:=B10.out
   obtain ⟨lB11,cB11,fB11⟩:=B11.out
   cases q
   ·have HNX:Hid (∀ u ∈ (x.code.zipIdx.take (j2+1)).flatMap (uxI c),gI f u):=h! (by
     rw [HTK.out]
     intro v hv
     rcases aO.1 hv with hv | hv
     ·exact HOK.out v hv
     ·rw [HUO.out v hv]
      have h9:=HQ.out.symm
      rw [List.any_eq_false] at h9
      unfold uxI at hv
      rw [aY] at hv
      obtain ⟨a,ha,rfl⟩:=hv
      have h8:=h9 a.1 (List.of_mem_zip ha).1
      exact Classical.byContradiction fun h=>h8 ((HG.out a.1).2 h))
    go_wp2
    go_roundw
    case rel=>exact ⟨j2+1,hlt3,by go_num,HNX.out,HW.out,B1.out,B2.out,BK.out⟩
    case measure=>simp [intOf];omega
   have HBAD:Hid (¬ ∀ u ∈ uxB (x,c),gI f u):=h! (fun h=>by
    have h9:=HQ.out.symm
    rw [eG] at h9
    obtain ⟨v,hv,hgv⟩:=h9
    obtain ⟨i,hi⟩:=bJ.1 hv
    have hil:=(aE.1 hi).1
    have hu:(⟨v,(shp0 y.op).args.getD i 0,c,j2,0⟩ : UseD) ∈ uxI c (y,j2):=by
     unfold uxI
     rw [aY]
     refine ⟨(v,(shp0 y.op).args.getD i 0), ?_,rfl⟩
     have hzz:(y.args.zip (shp0 y.op).args)[i]? = some (v,(shp0 y.op).args.getD i 0):=cT.2 ⟨hi,eX _ i (by rw [<-HAL.out];exact hil)⟩
     exact aG hzz
    exact (HG.out v).1 hgv ((HUO.out _ hu).1 (h _ (HUI.out _ hu))))
   go_wp2
   go_ret
   exact ⟨false,rfl,⟨(fun h=>by cases h),(fun h=>absurd h HBAD.out)⟩,HW.out⟩
  have hjc:j2=cl:=by omega
  have HCODE:Hid (∀ u ∈ x.code.zipIdx.flatMap (uxI c),gI f u):=h! (by
   have h9:=HOK.out
   rw [aI (by rw [dU];have:=HCL.out;omega)] at h9
   exact h9)
  have HEND:Hid (gS f.blocks.length x.term=true):=h! (by
   have h9:=(eS HC0.out).1
   unfold gM at h9
   simp only [aN,aZ] at h9
   have h8:=h9.2 (x,c) (by rw [bS];exact HX.out)
   unfold fN at h8
   simp only [aN] at h8
   exact h8.2)
  have HALL:Hid ((∀ u ∈ uxT c x,gI f u) -> ∀ u ∈ uxB (x,c),gI f u):=h! (fun h u hu=>by
   unfold uxB at hu
   rcases aO.1 hu with hu | hu
   ·rcases aO.1 hu with hu | hu
    ·exact HPHI.out u hu
    exact HCODE.out u hu
   exact h u hu)
  have HTB:Hid (∀ u ∈ uxT c x,u ∈ uxB (x,c)):=h! (fun u hu=>by unfold uxB;exact aO.2 (.inr hu))
  clear hjc HOK
  go_upto_region 19 with (fail)
  have nBTB1:w5.heap.size ≠ w.heap.size:=fun e=>by have:=lB1;omega
  have nB1BT:w.heap.size ≠ w5.heap.size:=fun e=>nBTB1 e.symm
  have nBTB2:w5.heap.size ≠ w.heap.size+1:=fun e=>by have:=lB2;omega
  have nB2BT:w.heap.size+1 ≠ w5.heap.size:=fun e=>nBTB2 e.symm
  have nBTBK:w5.heap.size ≠ bBK:=fun e=>by have:=lBK;omega
  have nBKBT:bBK ≠ w5.heap.size:=fun e=>nBTBK e.symm
  clear lB1 cB1 fB1 lB2 cB2 fB2 lBK cBK fBK
  have hA_:=(Below.refl w5.heap.size w5).alloc (aF _) (.cells #[.int .i64 x.term.op,.int .i64 x.term.val,.slice ati x.term.to.length cti,.int .i64 x.term.n] 48)
  replace B1:=h! (B1.out.later hA_)
  replace B2:=h! (B2.out.later hA_)
  replace BK:=h! (BK.out.later hA_)
  replace HW:=h! (HW.out.trans (hA_.mono HW.out.size))
  clear hA_
  have BT:=h! (Box.new w5 #[.int .i64 x.term.op,.int .i64 x.term.val,.slice ati x.term.to.length cti,.int .i64 x.term.n] 48)
  generalize w5.alloc (.cells #[.int .i64 x.term.op,.int .i64 x.term.val,.slice ati x.term.to.length cti,.int .i64 x.term.n] 48)=w6 at *
  obtain ⟨lB1,cB1,fB1⟩:=B1.out
  obtain ⟨lB2,cB2,fB2⟩:=B2.out
  obtain ⟨lBK,cBK,fBK⟩:=BK.out
  obtain ⟨lBT,cBT,fBT⟩:=BT.out
  by_cases h23:x.term.op=2 \/ x.term.op=3
  ·have hu:∃ t,(⟨x.term.val,t,c,x.code.length,0⟩ : UseD) ∈ uxT c x /\ ∀ u ∈ uxT c x,u=⟨x.term.val,t,c,x.code.length,0⟩:=by
    unfold uxT
    rcases h23 with h | h
    ·rw [if_pos h];exact ⟨2,by simp,by simp⟩
    ·rw [if_neg (by omega),if_pos h];exact ⟨0,by simp,by simp⟩
   obtain ⟨t,hu1,hu2⟩:=hu
   obtain ⟨d,k,hfd,hd0,hd1⟩:=mQ HC0.out (oP HX.out (HTB.out _ hu1))
   have hv0:¬ x.term.val < 0:=by
    have h9:=aGT HC0.out (eB hfd)
    simp only at h9
    omega
   have ho4:(x.term.op == 4)=false:=by simp;omega
   have ho1:(x.term.op == 1)=false:=by simp;omega
   have hS9:=HS.out.later HW.out
   rw [HNB.out] at hS9
   have HA:=h! (ahead hS9 HO.out HD.out HC0.out (at_:=(x.code.length:Int)) hfd ⟨hd0,hd1⟩ (b:=(c:Int)) ⟨by omega,by rw [<-HNB.out];omega⟩)
   rw [<-HCL.out] at HA
   have HUO:Hid (gI f ⟨x.term.val,t,c,x.code.length,0⟩ ↔ kQ f d k c x.code.length):=h! (by
    rw [tN hfd]
    have hn:¬ ((x.code.length:Nat):Int) < 0:=by omega
    exact ⟨fun h=>h.elim (fun h=>absurd h.1 hn) (fun h=>h.2),fun h=>.inr ⟨hn,h⟩⟩)
   have HU1:=h! hu1
   have HU2:=h! hu2
   clear h23 hu1 hu2 hfd hd0 hd1 hS9
   go_wp2_with fail
   refine HA.out.mono ?_
   rintro e w7 ⟨r,rfl,hr,hb⟩
   rw [HCL.out] at hr
   have HR:=h! hr
   clear hr HA
   clear lB1 cB1 fB1 lB2 cB2 fB2 lBK cBK fBK lBT cBT fBT
   replace B1:=h! (B1.out.later hb)
   replace B2:=h! (B2.out.later hb)
   replace BK:=h! (BK.out.later hb)
   replace BT:=h! (BT.out.later hb)
   replace HW:=h! (HW.out.trans (hb.mono HW.out.size))
   clear hb
   obtain ⟨lB1,cB1,fB1⟩:=B1.out
   obtain ⟨lB2,cB2,fB2⟩:=B2.out
   obtain ⟨lBK,cBK,fBK⟩:=BK.out
   obtain ⟨lBT,cBT,fBT⟩:=BT.out
   cases r
   ·have HBAD:Hid (¬ ∀ u ∈ uxB (x,c),gI f u):=h! (fun h=>by have:=HR.out.2 (HUO.out.1 (h _ (HTB.out _ HU1.out)));simp at this)
    go_wp2
    go_ret
    exact ⟨false,rfl,⟨(fun h=>by cases h),(fun h=>absurd h HBAD.out)⟩,HW.out⟩
   ·have HYES:Hid (∀ u ∈ uxB (x,c),gI f u):=h! (HALL.out (fun u hu=>by rw [HU2.out u hu];exact HUO.out.2 (HR.out.1 (by trivial))))
    go_wp2
    go_ret
    exact ⟨true,rfl,⟨(fun _=>HYES.out),(fun _=>by trivial)⟩,HW.out⟩
  have hval:x.term.val = -1:=by
   have h9:=HEND.out
   unfold gS at h9
   simp at h9
   omega
  have hneg:x.term.val < 0:=by omega
  have HYES:Hid (∀ u ∈ uxB (x,c),gI f u):=h! (HALL.out (fun u hu=>by
   unfold uxT at hu
   rw [if_neg (fun h=>h23 (.inl h)),if_neg (fun h=>h23 (.inr h))] at hu
   cases hu))
  clear h23 hval
  go_wp2
  go_ret
  exact ⟨true,rfl,⟨(fun _=>HYES.out),(fun _=>by trivial)⟩,HW.out⟩
end Go.Proofs.YtcmflfkpeodicaaGreat
