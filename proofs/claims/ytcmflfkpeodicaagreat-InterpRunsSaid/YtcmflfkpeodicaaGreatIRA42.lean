/- Part 42. -/
import Derived.Test.YtcmflfkpeodicaaGreatIRA41
namespace Go.Proofs.YtcmflfkpeodicaaGreat
set_option linter.all false
open Go.RowKit
private theorem fG.alloc {w0 W:World} (h:fG w0 W) (o:Obj):fG w0 (W.alloc o):=h.later ((Below.refl _ _).alloc (aF _) o)
set_option maxHeartbeats 51200000 in
set_option maxRecDepth 100000 in
theorem aC6 {c:RefC} {w:World} {b at_:Nat} {D:Foot} {s:RunS} {f:FuncD} {x:BlockD} {src:Int} (hm:RefM c w b D s ⟨0,0,0⟩ false) (hE:EnvR c f w) (hr:Rise c.ids) (hids:∀ id,id ∈ (eR f).map (·.1) -> id ∈ c.ids) (hc:eL f=0) (hfu:c.fuel <= 200000) (hG:GoodS f c.fuel s) (hV:∀ n ∈ s.visits,n <= 1000000)
  (hx:f.blocks[at_]? = some x) (hsrc:∀ p ∈ x.phis,src ∈ p.src) :
  Calls Tryz.prog 43 #[.pointer (some ⟨b,0,none⟩),.int .i64 src,.int .i64 at_] w (ResQ c w b D (gP f c.fuel src at_ s)):=by
 obtain ⟨w0,hw0,hb0,hbl,hiv⟩:=hE
 obtain ⟨a3,c3,bb,bo,hfb,hbc,hbm,hbl2,hba,hbx⟩:=eW hbl
 have hatl:at_ < f.blocks.length:=(aE.1 hx).1
 obtain ⟨rfl,hbw⟩:=hba (by omega)
 obtain ⟨api,aii,ati,cpi,cii,cti,hC⟩:=hbx at_ x hx
 obtain ⟨nb,hnb⟩ : ∃ nb,nb=f.blocks.length:=⟨_,rfl⟩
 rw [<-hnb] at hfb hbc hatl hbl2
 have hB:=hm.base b hm.b0
 have hBw:=hm.lt b hm.b0
 obtain ⟨ia,ic,hivf⟩:=hiv.form
 have HC:=h! hC
 have HNB:=h! hnb
 have HX:=h! hx
 have HXM:=h! (aG hx)
 have HSR:=h! hsrc
 have HCH:=h! hc
 have HB:=h! (show c.base <= w.heap.size by omega)
 have HG:=h! hG
 have HRI:=h! hr
 have HIDS:=h! hids
 have HIV:=h! hiv
 have HIVF:=h! hivf
 have HBLK:Hid (gP f c.fuel src at_ s=(gQ c.fuel x.code (nC x src (kD at_ s))).bind fun _ s1=>(iL c.fuel s1).bind fun _ s2=>endR x.term s2):=h! (by unfold gP;rw [getD_some hx])
 have H0L:Hid (Below w0.heap.size w0 w):=h! (by rw [hw0];exact hb0)
 have h512:nb <= 512:=by rw [hnb];exact (gV (eS hc).1).2
 obtain ⟨n0,hn0⟩ : ∃ n0,s.visits[at_]? = some n0:=⟨_,aB (by have:=hG.vis;omega)⟩
 have hn1:=hV n0 (aG hn0)
 obtain ⟨ov,av,vv,xv,cv,F,hP,hD⟩:=hm
 have HD:=h! hD
 have hvn:(natI s.visits)[at_]? = some ((n0:Nat):Int):=by unfold natI;rw [aU,hn0];rfl
 obtain ⟨gv,cvv,hvv,hgv,hgvl,hcv,hfv,hset⟩:=hP.vis.addr hvn
 have hvl:(natI s.visits).length=nb:=by unfold natI;rw [bD,hG.vis,hnb]
 rw [hvl] at hvv
 subst hvv
 have hset1:=hset (((n0+1:Nat):Int)) ⟨by omega,by omega⟩
 have hadd:IntKind.i64.wrap (((n0:Nat):Int)+1)=((n0+1:Nat):Int):=by rw [kJ ⟨by omega,by omega⟩];omega
 have hgb:gv ≠ b:=fun e=>hP.apart 3 0 (by omega) gv hgv ((hP.b0 gv).2 e)
 have HP1:Hid (RefP c (w.setCell ⟨gv,at_,none⟩ (.int .i64 ((n0:Int)+1))) b (kD at_ s) ⟨0,0,0⟩ false ov av (.slice (some ⟨gv,0,none⟩) nb cvv) xv cv F):=h! (by
  have hoff:=Off.set w ⟨gv,at_,none⟩ (.int .i64 ((n0:Int)+1))
  have h9:=hP.turn 3 (by omega) (by omega) (s':=kD at_ s) (G:=F 3) (hoff.mono fun k _ hk=>by cases hk;exact hgv) (fun k hk=>.inl hk) (by omega) ⟨rfl,rfl⟩ (by rw [if_neg (by omega)];rfl) (by rw [if_neg (by omega)];rfl) (by
   rw [if_pos rfl]
   show eM _ _ _ (natI (s.visits.modify at_ (· + 1)))
   rw [pW hn0]
   exact hset1) (by rw [if_neg (by omega)];rfl) (by rw [if_neg (by omega)];rfl)
  rwa [oD] at h9)
 have HOV:Hid (Off D w (w.setCell ⟨gv,at_,none⟩ (.int .i64 ((n0:Int)+1)))):=h! ((Off.set w ⟨gv,at_,none⟩ _).mono fun k _ hk=>by cases hk;exact (hD gv).2 ⟨3,hgv⟩)
 have HDB:Hid (∀ k,D k -> c.base <= k):=h! (fun k hk=>by obtain ⟨i,hi⟩:=(hD k).1 hk;exact hP.base i k hi)
 have HDL:Hid (∀ k,D k -> k < w.heap.size):=h! (fun k hk=>by obtain ⟨i,hi⟩:=(hD k).1 hk;exact hP.lt hi)
 have HFD:Hid (∀ i k,F i k -> D k):=h! (fun i k hk=>(hD k).2 ⟨i,hk⟩)
 have HW0:=h! hw0
 have HFB:=h! hfb
 obtain ⟨lm,cm,fm⟩:=hP.box
 have k11:w.cell? ⟨b,11,none⟩=some (.slice (some ⟨gv,0,none⟩) nb cvv):=cm 11
 have hgvv:w.cell? ⟨gv,at_,none⟩=some (.int .i64 (n0:Int)):=hcv
 have hgvf:w.frozen? ⟨gv,at_,none⟩=false:=hfv at_
 clear hbl hbx hC hx hnb hsrc hc hB hG hV hn0 hvn hP hD hset hset1 hvl hba hb0 hw0 cm fm hcv hfv hfb hids hr hiv hivf
 --@A
 go_enter Tryz.func43,Tryz.ntmps43
 go_upto_region 2 with (fail)
 clear hadd hgvv lm k11 hgvf
 generalize w.setCell ⟨gv,at_,none⟩ (.int .i64 ((n0:Int)+1))=w1 at *
 obtain ⟨lm,cm,fm⟩:=HP1.out.box
 have k3:w1.cell? ⟨b,3,none⟩=some c.fb:=cm 3
 rw [HFB.out] at k3
 have HB01:Hid (Below w0.heap.size w0 w1):=h! (H0L.out.trans (HOV.out.below (by have:=HB.out;have:=HW0.out;omega) (fun k _ hk=>by have:=HDB.out k hk;have:=HW0.out;omega)))
 obtain ⟨z0,z1,z2,z3,z4,z5, -, -, -, -, -, -⟩:=HC.out.below HB01.out hbw
 clear cm fm
 go_upto_region 3 with (fail)
 clear z0 z1 z2 z3 z4 z5 k3 lm
 obtain ⟨pl,hpl⟩ : ∃ pl,pl=x.phis.length:=⟨_,rfl⟩
 obtain ⟨cl,hcl⟩ : ∃ cl,cl=x.code.length:=⟨_,rfl⟩
 obtain ⟨tl,htl⟩ : ∃ tl,tl=x.term.to.length:=⟨_,rfl⟩
 rw [<-hpl, <-hcl, <-htl]
 have B7:Hid (Box (w1.alloc (.cells #[.slice api pl cpi,.slice aii cl cii,.int .i64 x.term.op,.int .i64 x.term.val,.slice ati tl cti,.int .i64 x.term.n] 50)) w1.heap.size #[.slice api pl cpi,.slice aii cl cii,.int .i64 x.term.op,.int .i64 x.term.val,.slice ati tl cti,.int .i64 x.term.n]):=h! (Box.new _ _ _)
 have HP2:=h! (HP1.out.alloc (.cells #[.slice api pl cpi,.slice aii cl cii,.int .i64 x.term.op,.int .i64 x.term.val,.slice ati tl cti,.int .i64 x.term.n] 50))
 have HO2:Hid (Off D w (w1.alloc (.cells #[.slice api pl cpi,.slice aii cl cii,.int .i64 x.term.op,.int .i64 x.term.val,.slice ati tl cti,.int .i64 x.term.n] 50))):=h! (HOV.out.trans (Off.alloc _ _ _))
 have HB02:Hid (Below w0.heap.size w0 (w1.alloc (.cells #[.slice api pl cpi,.slice aii cl cii,.int .i64 x.term.op,.int .i64 x.term.val,.slice ati tl cti,.int .i64 x.term.n] 50))):=h! (HB01.out.alloc HB01.out.size _)
 obtain ⟨b7,hb7⟩ : ∃ b7,b7=w1.heap.size:=⟨_,rfl⟩
 have hb7w:w.heap.size <= b7:=by rw [hb7];exact HOV.out.size
 rw [<-hb7] at B7 ⊢
 generalize w1.alloc (.cells #[.slice api pl cpi,.slice aii cl cii,.int .i64 x.term.op,.int .i64 x.term.val,.slice ati tl cti,.int .i64 x.term.n] 50)=w2 at *
 clear hb7 HP1 HB01 HOV
 have HPL:=h! hpl
 have HCL:=h! hcl
 have HTL:=h! htl
 obtain ⟨s1,hs1⟩ : ∃ s1,s1=kD at_ s:=⟨_,rfl⟩
 rw [<-hs1] at HP2 HBLK
 have HG1:Hid (GoodS f c.fuel s1):=h! (by rw [hs1];exact HG.out.visit at_)
 obtain ⟨a9,c9,pb,po,hpe, -, -,hpl2,hpa,hpx⟩:=fV HC.out.phis
 rw [<-hpl] at hpe hpa hpl2
 cases hpe
 have HPA:=h! hpa
 have HPX:=h! hpx
 obtain ⟨a10,c10,cb,co,hce, -, -,hcl2,hca,hcx⟩:=gC HC.out.code
 rw [<-hcl] at hce hca hcl2
 cases hce
 have HCA:=h! hca
 have HCX:=h! hcx
 have HCLE:Hid (cl <= 100000/\pl <= 100000):=h! (by have h9:=(pF HCH.out).1 x HXM.out;rw [hcl,hpl];exact ⟨h9.2,h9.1⟩)
 have HPN:Hid (∀ p ∈ x.phis,p.src.Nodup):=h! (fun p hp=>by
  obtain ⟨i,hi⟩:=bP HXM.out
  exact rH ((iU.1 ((gW.1 HCH.out).2.2.1 i x hi)).2.1 p hp))
 clear hpl hcl htl hs1 hpa hpx hca hcx
 obtain ⟨W2,hW2⟩ : ∃ W2,W2=w2:=⟨_,rfl⟩
 have HL2:Hid (fG W2 w2):=h! (by rw [hW2];exact Below.refl _ _)
 rw [<-hW2] at HP2 HO2 HB02 B7
 clear hW2
 have HL3:Hid (fG W2 (w2.alloc (.cells #[] 3))):=h! (HL2.out.alloc _)
 --@B
 go_wp2_with fail
 have HVL:Hid ((x.phis.map (phiV src s1)).length=pl):=h! (by rw [bD,HPL.out])
 go_loopw [8,9] (fun t i wr => ∃ (q:Nat) (S:Foot) (a:Option Addr) (c5:Nat),q <= pl/\i = .int .i64 q/\t = .slice a q c5/\eM wr S (.slice a q c5) ((x.phis.map (phiV src s1)).take q)/\jY W2.heap.size S/\fG W2 wr) (fun _ i _=>pl - (intOf i).toNat)
 case atStart=>exact ⟨0,Foot.none,_,0,aP _,rfl,rfl,eM.nil _,fun _ h=>h.elim,HL3.out⟩
 case round =>
  obtain ⟨q,S,a5,c5,hq,rfl,rfl,hO,hF,hs⟩:=hrel
  clear HL2 HL3
  have HS:=h! hs
  have HO:=h! hO
  have HF:=h! hF
  have HPR:=h! (HP2.out.later hs)
  have HB0:Hid (Below w0.heap.size w0 wr):=h! (HB02.out.trans (Below.mono hs HB02.out.size))
  clear hs hO hF
  generalize wr=wo at *
  obtain ⟨l7,c7,f7⟩:=B7.out.later HS.out
  by_cases hlt:q < pl
  ·obtain ⟨rfl,hpbl⟩:=HPA.out (by omega)
   obtain ⟨p,hp⟩ : ∃ p,x.phis[q]? = some p:=⟨_,aB (by have:=HPL.out;omega)⟩
   have hpm:=aG hp
   obtain ⟨af,avp,cf,cvp,hPC⟩:=HPX.out q p hp
   obtain ⟨fl,hfl⟩ : ∃ fl,fl=p.src.length:=⟨_,rfl⟩
   obtain ⟨ix,hix⟩ : ∃ ix,ix=p.src.idxOf src:=⟨_,rfl⟩
   obtain ⟨hpi,hpv⟩:=aAD HCH.out HX.out hpm (HSR.out p hpm)
   have hixl:ix < fl:=by rw [hix,hfl];exact cY (HSR.out p hpm)
   rw [<-hix] at hpi hpv
   obtain ⟨y,hy⟩ : ∃ y,y=p.vals.getD ix 0:=⟨_,rfl⟩
   rw [<-hy] at hpv
   have HPC:=h! hPC
   have hflb:fl <= 17592186044416:=by rw [hfl];exact hPC.src.1.big
   have HFL:=h! hfl
   have HYI:=h! (uL HCH.out HIDS.out (aAC HXM.out hpm hpv))
   have HPI:=h! hpi
   have HY:=h! hy
   have HTK:Hid ((x.phis.map (phiV src s1)).take (q+1)=(x.phis.map (phiV src s1)).take q ++ [s1.vals y]):=h! (by
    rw [bU,aU,hp,hy,hix];rfl)
   have HEQ:Hid (∀ k,k < fl -> (p.src.getD k 0=src ↔ k=ix)):=h! (fun k hk=>by rw [hix];exact yR (HPN.out p hpm) (HSR.out p hpm) (by omega))
   have HY64:=h! (HP2.out.v64 y)
   have HLN:Hid (((x.phis.map (phiV src s1)).take q).length=q):=h! (by rw [aX,HVL.out];omega)
   clear hPC hfl hp hpm hix hpi hpv hy
   go_wp2_with fail
   clear l7 c7 f7
   go_loopw [8,10] (fun t i wr => ∃ (k nk:Nat) (S:Foot) (a:Option Addr) (c5:Nat),k <= fl/\nk=(if ix < k then q+1 else q)/\i = .int .i64 k/\t = .slice a nk c5/\eM wr S (.slice a nk c5) ((x.phis.map (phiV src s1)).take nk)/\jY W2.heap.size S/\fG W2 wr) (fun _ i _=>fl - (intOf i).toNat)
   case atStart=>exact ⟨0,q,S,a5,c5,aP _,by rw [if_neg (by omega)],rfl,rfl,HO.out,HF.out,HS.out⟩
   obtain ⟨k,nk,S1,a6,c6,hk,hnk,rfl,rfl,hO,hF,hs⟩:=hrel
   clear HO HF HS HPR HB0
   have HS:=h! hs
   have HO:=h! hO
   have HF:=h! hF
   have HPR:=h! (HP2.out.later hs)
   have HB0:Hid (Below w0.heap.size w0 wr):=h! (HB02.out.trans (Below.mono hs HB02.out.size))
   clear hs hO hF
   obtain ⟨l7,c7,f7⟩:=B7.out.later HS.out
   obtain ⟨z0,z1,z2,z3, -, -, -, -⟩:=HPC.out.below HB0.out hpbl
   rw [<-HFL.out] at z2
   by_cases hltk:k < fl
   ·obtain ⟨sb,so,sc,hse,hsbl,hsx⟩:=fK HPC.out.src (by rw [<-HFL.out];omega)
    cases hse
    rw [HFL.out] at z2
    have hsk:=(HB0.out.cell (p:=⟨sb,so+k,none⟩) hsbl).trans (hsx k (by rw [<-HFL.out];exact hltk))
    have heq:=HEQ.out k hltk
    obtain ⟨u,hu⟩ : ∃ u,u=p.src.getD k 0:=⟨_,rfl⟩
    rw [<-hu] at hsk heq
    rw [<-HFL.out] at z2
    by_cases hke:k=ix
    ·have ht:(u == src)=true:=by simpa using heq.2 hke
     obtain ⟨vb,vo,vc,hve,hvbl,hvx⟩:=fK HPC.out.vals (by have:=HPI.out;omega)
     cases hve
     have hyc:=hvx ix HPI.out
     rw [<-HY.out] at hyc
     have HYC:Hid (∀ W,Below wr.heap.size wr W -> W.cell? ⟨vb,vo+k,none⟩=some (.int .i64 y)):=h! (fun W hb=>by rw [hke];exact ((HB0.out.trans (hb.mono HB0.out.size)).cell (p:=⟨vb,vo+ix,none⟩) hvbl).trans hyc)
     have HZC:Hid (∀ W,Below wr.heap.size wr W -> W.cell? ⟨pb,po+q * 4+3,none⟩=some (.slice (some ⟨vb,vo,none⟩) p.vals.length cvp)):=h! (fun W hb=>(hb.cell (p:=⟨pb,po+q * 4+3,none⟩) (aL hpbl HB0.out.size)).trans z3)
     have hnq:nk=q:=by rw [hnk,if_neg (by omega)]
     clear hnk
     subst hnq
     have hkl:k < p.vals.length:=by have:=HPI.out;omega
     have HOH:Hid (Holds [] W2.heap.size wr S1 (fun W=>eM W S1 (.slice a6 nk c6) ((x.phis.map (phiV src s1)).take nk))):=h! (jF HO.out HF.out)
     clear HO hyc hvx heq hu hsx
     have HKE:=h! hke
     clear hke
     go_upto_region 11 with (fail)
     clear hsk z0 z1 z2 z3 ht l7 c7 f7
     refine gK 13 (fun kz=>match kz with | 11=>.const (.int .i64 (s1.vals y)) | 12=>.made wr.heap.size (fun b=>.slice (some ⟨b,0,none⟩) 1 1) #[.int .i64 (s1.vals y)] | _=>.plain) (by kernel_rfl) (by simp) ?_ (fun ν => ?_)
     ·(intro k;(try dsimp only);split <;> first | exact True.intro | (intro u w1 w2 hu hb;exact hu.below hb))
     simp only [aK,aR,aM,aT]
     iterate 11 (refine Grow.val (v := ?_) rfl rfl (fun wg hbg hdg => ?_) ?_;rotate_left;(focus ((obtain ⟨xl7,xc7,xf7⟩:=B7.out.later (HS.out.later hbg);have hyw:=HYC.out wg hbg;have hzw:=HZC.out wg hbg);clear hbg hdg;first | (go_simp;done) | (go_simp;with_reducible rfl)));simp only [Act.put,aA,aC,aD])
     refine Grow.call (f := ?_) (args := ?_) rfl (fun wg => ?_) (fun wg hbg hdg => ?_) ?_
     rotate_left 2
     focus (first | (go_simp;done) | (go_simp;refine And.intro ?_ ?_ <;> with_reducible rfl) | (go_simp;with_reducible rfl))
     focus exact Calls.mono ((rGet (HPR.out.later hbg).mach (HIV.out.below (HB0.out.trans (hbg.mono HB0.out.size))) HRI.out HYI.out)) (fun e w2 ⟨he,hb2⟩=>⟨_,he,rfl,hb2⟩)
     simp only [Act.put,Known.val,aA,aC,aD]
     refine Grow.made (T := ?_) rfl rfl (fun wg hbg hdg => ?_) ?_
     rotate_left
     focus ((obtain ⟨xl7,xc7,xf7⟩:=B7.out.later (HS.out.later hbg);have hyw:=HYC.out wg hbg;have hzw:=HZC.out wg hbg);clear hbg hdg;first | (go_simp;done) | (go_simp;with_reducible rfl))
     simp only [Act.put,Known.val,aA,aC,aD]
     intro wg hb hf hap
     obtain ⟨bBN,hνBN,hBBN,hXBN⟩:=hf 12 (by omega)
     simp only [hνBN]
     clear hνBN
     clear hap
     replace HOH:=h! (HOH.out.later hb)
     replace HS:=h! (HS.out.later hb)
     have BN:=h! hXBN
     clear hXBN
     obtain ⟨lBN,cBN,fBN⟩:=BN.out
     clear hf
     refine jC rfl _ _ rfl rfl rfl HLN.out HOH.out.now BN.out HY64.out (by have:=HCLE.out.2;omega) ?_
     intro g1 c1 w10 q1 q2 q3
     have HS10:Hid (fG W2 w10):=h! (Below.trans HS.out (q3.below (Below.size HS.out) (fun k _ hk=>HF.out k hk)))
     have HO10:Hid (eM w10 (Foot.one g1) (.slice (some ⟨g1,0,none⟩) (nk+1) c1) ((x.phis.map (phiV src s1)).take (nk+1))):=h! (by rw [HTK.out];exact q1)
     have HF10:Hid (jY W2.heap.size (Foot.one g1)):=h! (fun k hk=>by
      cases hk
      rcases q2 with h | h
      ·exact HF.out _ h
      exact aJ (Below.size HS.out) h)
     clear q1 q2 q3
     go_wp2
     go_roundw
     case rel=>exact ⟨k+1,nk+1,_,_,_,hltk,by rw [if_pos (by have:=HKE.out;omega)],by go_num,rfl,HO10.out,HF10.out,HS10.out⟩
     simp [intOf];omega
    have ht:(u == src)=false:=by simpa using fun h=>hke (heq.1 h)
    have hnk2:nk=(if ix < k+1 then q+1 else q):=by
     rw [hnk]
     by_cases h:ix < k
     ·rw [if_pos h,if_pos (by omega)]
     rw [if_neg h,if_neg (by omega)]
    have HN2:=h! hnk2
    clear hnk hnk2 heq hu hsx hke
    go_wp2
    go_roundw
    case rel=>exact ⟨k+1,nk,S1,a6,c6,hltk,HN2.out,by go_num,rfl,HO.out,HF.out,HS.out⟩
    simp [intOf];omega
   obtain rfl:fl=k:=by omega
   have hnq:nk=q+1:=by rw [hnk,if_pos hixl]
   subst hnq
   clear hnk
   go_wp2
   go_roundw
   case rel=>exact ⟨q+1,S1,a6,c6,hlt,by go_num,rfl,HO.out,HF.out,HS.out⟩
   simp [intOf];omega
  obtain rfl:pl=q:=by omega
  have HV8:Hid (eM wo S (.slice a5 pl c5) (x.phis.map (phiV src s1))):=h! (by
   have h9:=HO.out
   rw [aI (by rw [HVL.out];omega)] at h9
   exact h9)
  have HS2:Hid (∀ k,S k -> ¬ F 4 k):=h! (fun k hk h=>by have h8:=HF.out k hk;have h9:=HP2.out.lt h;omega)
  have hb7F:¬ F 4 b7:=fun h=>by have h9:=HDL.out _ (HFD.out 4 _ h);omega
  have HO4:Hid (Off D w wo):=h! (HO2.out.trans (Off.of_below HS.out _))
  have B74:=h! (B7.out.later HS.out)
  clear HO hlt hq
  --@C
  go_wp2_with fail
  clear l7 c7 f7
  go_loopw [11] (fun i wr => ∃ k:Nat,k <= pl/\i = .int .i64 k/\RefP c wr b (mC s1 ((x.phis.map fun p=>(p,phiV src s1 p)).take k)) ⟨0,0,0⟩ false ov av (.slice (some ⟨gv,0,none⟩) nb cvv) xv cv F/\Off (F 4) wo wr) (fun i _=>pl - (intOf i).toNat)
  case atStart=>exact ⟨0,aP _,rfl,by rw [aR];exact HPR.out,Off.refl _ _⟩
  obtain ⟨k,hk,rfl,hmp,hof⟩:=hrel
  clear HPR
  have HPK:=h! hmp
  have HOF:=h! hof
  have HF4:Hid (∀ k,F 4 k -> c.base <= k):=h! (fun k h=>HPK.out.base 4 k h)
  have HB9:Hid (Below w0.heap.size w0 wr):=h! (HB0.out.trans (hof.below HB0.out.size (fun k _ h=>by have:=HF4.out k h;have:=HW0.out;omega)))
  have B7K:Hid (Box wr b7 #[.slice api pl cpi,.slice aii cl cii,.int .i64 x.term.op,.int .i64 x.term.val,.slice ati tl cti,.int .i64 x.term.n]):=h! (B74.out.off hof hb7F)
  clear hmp hof
  obtain ⟨l7,c7,f7⟩:=B7K.out
  by_cases hlt:k < pl
  ·obtain ⟨rfl,hpbl⟩:=HPA.out (by omega)
   obtain ⟨p,hp⟩ : ∃ p,x.phis[k]? = some p:=⟨_,aB (by have:=HPL.out;omega)⟩
   obtain ⟨af,avp,cf,cvp,hPC⟩:=HPX.out k p hp
   obtain ⟨z0,z1,z2,z3, -, -, -, -⟩:=hPC.below HB9.out hpbl
   obtain ⟨sb,so,sc,hse,hsbl,hsx⟩:=fK HV8.out.ints (by rw [HVL.out];omega)
   rw [HVL.out] at hse
   cases hse
   have hsb:S sb:=HV8.out.block (by omega)
   obtain ⟨z,hz⟩ : ∃ z,z=(x.phis.map (phiV src s1)).getD k 0:=⟨_,rfl⟩
   have hzc:=hsx k (by rw [HVL.out];exact hlt)
   rw [<-hz] at hzc
   have hzp:z=phiV src s1 p:=by rw [hz,aH,aU,hp];rfl
   have hzw:=(HOF.out.cell2 (p:=⟨sb,so+k,none⟩) hsbl (HS2.out sb hsb)).trans hzc
   have HZ64:Hid (In64 z):=h! (by rw [hzp];exact HP2.out.v64 _)
   have HTK:=h! (pP (src:=src) (s:=s1) hp)
   rw [<-hzp] at HTK
   obtain ⟨sk,hsk⟩ : ∃ sk,sk=mC s1 ((x.phis.map fun p=>(p,phiV src s1 p)).take k):=⟨_,rfl⟩
   have HNX:Hid (mC s1 ((x.phis.map fun p=>(p,phiV src s1 p)).take (k+1))=setV sk p.id z):=h! (by rw [HTK.out,pV,hsk])
   rw [<-hsk] at HPK
   obtain ⟨j,hj⟩:=bP (aF6 HIDS.out (uY HCH.out HXM.out (aG hp)))
   have hjl:=(aE.1 hj).1
   have HJ:=h! hj
   obtain ⟨il,hil⟩ : ∃ il,il=c.ids.length:=⟨_,rfl⟩
   rw [<-hil] at hjl
   have HIL:=h! hil
   obtain ⟨gx,cx,hxv,hFx,hgxl, -, -, -⟩:=HPK.out.setv HRI.out HJ.out HZ64.out
   rw [<-hil] at hxv
   have HXV:=h! hxv
   have hbr:b < wr.heap.size:=HPK.out.box.lt
   have hsbr:sb < wr.heap.size:=aL hsbl HOF.out.size
   have HZ0:=h! z0
   have HPBR:Hid (pb < wr.heap.size):=h! (aL hpbl HB9.out.size)
   have HZW:=h! hzw
   clear hzc hsx hz hzp hp hPC hsk hsb hj hil hFx hxv z1 z2 z3 hzw
   go_upto_region 15 with (fail)
   clear z0 l7 c7 f7
   refine wp_region_grow 17 (fun kz=>match kz with | 11=>.const (.int .i64 (j:Int)) | _=>.plain) (by kernel_rfl) (by kernel_rfl) ?_ (fun ν => ?_)
   ·(intro k;(try dsimp only);split <;> first | exact True.intro | (intro u w1 w2 hu hb;exact hu.below hb))
   simp only [aK,aR,aM,aT]
   iterate 11 (refine Grow.val (v := ?_) rfl rfl (fun wg hbg hdg => ?_) ?_;rotate_left;(focus ((obtain ⟨xl1,xc1,xf1⟩:=(HPK.out.later hbg).box;have q14:wg.cell? ⟨b,14,none⟩=some xv:=xc1 14;rw [HXV.out] at q14;obtain ⟨xl7,xc7,xf7⟩:=B7K.out.later hbg;have hzg:=(hbg.cell (p:=⟨sb,so+k,none⟩) hsbr).trans HZW.out;have z0g:=(hbg.cell (p:=⟨pb,po+k * 4,none⟩) HPBR.out).trans HZ0.out;clear xc1 xf1);clear hbg hdg;first | (go_simp;done) | (go_simp;with_reducible rfl)));simp only [Act.put,aA,aC,aD])
   refine Grow.call (f := ?_) (args := ?_) rfl (fun wg => ?_) (fun wg hbg hdg => ?_) ?_
   rotate_left 2
   focus (first | (go_simp;done) | (go_simp;refine And.intro ?_ ?_ <;> with_reducible rfl) | (go_simp;with_reducible rfl))
   focus exact Calls.mono ((aE4 (aL hbr hbg.size) (((HPK.out.later hbg).box.at 13 rfl).trans (congrArg some HIVF.out)) (HIVF.out ▸ HIV.out.below (HB9.out.trans (hbg.mono HB9.out.size))) HRI.out HJ.out)) (fun e w2 ⟨he,hb2⟩=>⟨_,he,rfl,hb2⟩)
   simp only [Act.put,Known.val,aA,aC,aD]
   iterate 5 (refine Grow.val (v := ?_) rfl rfl (fun wg hbg hdg => ?_) ?_;rotate_left;(focus ((obtain ⟨xl1,xc1,xf1⟩:=(HPK.out.later hbg).box;have q14:wg.cell? ⟨b,14,none⟩=some xv:=xc1 14;rw [HXV.out] at q14;obtain ⟨xl7,xc7,xf7⟩:=B7K.out.later hbg;have hzg:=(hbg.cell (p:=⟨sb,so+k,none⟩) hsbr).trans HZW.out;have z0g:=(hbg.cell (p:=⟨pb,po+k * 4,none⟩) HPBR.out).trans HZ0.out;clear xc1 xf1);clear hbg hdg;first | (go_simp;done) | (go_simp;with_reducible rfl)));simp only [Act.put,aA,aC,aD])
   intro wg hb hf hap
   clear hap
   clear hf
   have HPG:=h! (HPK.out.later hb)
   have HOG:Hid (Off (F 4) wo wg):=h! (HOF.out.trans (Off.of_below hb _))
   obtain ⟨gx2,cx2,hx2,hFx2,hgx2,hcx2,hfx2,hset⟩:=HPG.out.setv HRI.out HJ.out HZ64.out
   obtain rfl:gx=gx2:=by rw [HXV.out] at hx2;injection hx2 with h;injection h with h;injection h
   have HPS:=h! hset
   have HOS:Hid (Off (F 4) wo (wg.setCell ⟨gx,j,none⟩ (.int .i64 z))):=h! (HOG.out.trans ((Off.set wg ⟨gx,j,none⟩ _).mono fun k _ hk=>by cases hk;exact hFx2))
   clear hset hx2 hFx2 hb
   go_wp2
   go_roundw
   case rel=>exact ⟨k+1,hlt,by go_num,by rw [HNX.out];exact HPS.out,HOS.out⟩
   simp [intOf];omega
  obtain rfl:pl=k:=by omega
  have HALL:Hid (mC s1 ((x.phis.map fun p=>(p,phiV src s1 p)).take pl)=nC x src s1):=h! (by
   rw [aI (by rw [bD];have:=HPL.out;omega)];rfl)
  rw [HALL.out] at HPK
  obtain ⟨s2,hs2⟩ : ∃ s2,s2=nC x src s1:=⟨_,rfl⟩
  rw [<-hs2] at HPK HBLK
  have HG2:Hid (GoodS f c.fuel s2):=h! (by rw [hs2];exact HG1.out.phis HCH.out HX.out HSR.out)
  have HRA:Hid (aC5 c w b b7 D #[.slice api pl cpi,.slice aii cl cii,.int .i64 x.term.op,.int .i64 x.term.val,.slice ati tl cti,.int .i64 x.term.n] wr s2):=h! ⟨_,HPK.out.mach,HO4.out.trans (HOF.out.mono fun k _ hk=>HFD.out 4 k hk),fun k ⟨i,hi⟩=>.inl (HFD.out i k hi),fun ⟨i,hi⟩=>by have:=HDL.out _ (HFD.out i _ hi);omega,B7K.out⟩
  clear HALL hs2 hlt hk HPK HOF HB9 B7K HB0 B74
  --@E
  go_wp2_with fail
  clear l7 c7 f7
  have HSTART:=HRA
  go_loopw [12] (fun i wr => ∃ (k:Nat) (s' : RunS),k <= cl/\i = .int .i64 k/\gQ c.fuel (x.code.take k) s2 = .go () s' /\ aC5 c w b b7 D #[.slice api pl cpi,.slice aii cl cii,.int .i64 x.term.op,.int .i64 x.term.val,.slice ati tl cti,.int .i64 x.term.n] wr s') (fun i _=>cl - (intOf i).toNat)
  case atStart=>exact ⟨0,s2,aP _,rfl,rfl,HSTART.out⟩
  obtain ⟨k,s',hk,rfl,hcode,D1,hm1,ho1,hd1,hb1,hB7⟩:=hrel
  clear HRA HSTART
  have HM1:=h! hm1
  have HO1:=h! ho1
  have HD1:=h! hd1
  have HN7:=h! hb1
  have B71:=h! hB7
  have HCODE:=h! hcode
  have HG3:Hid (GoodS f c.fuel s'):=h! (HG2.out.code HCH.out HXM.out (fun y hy=>dO hy) hcode)
  have HB9:Hid (Below w0.heap.size w0 wr):=h! (H0L.out.trans (ho1.below (by have:=HB.out;have:=HW0.out;omega) (fun q _ hq=>by have:=HDB.out q hq;have:=HW0.out;omega)))
  clear hm1 ho1 hd1 hb1 hB7 hcode
  obtain ⟨l7,c7,f7⟩:=B71.out
  by_cases hlt:k < cl
  ·obtain ⟨rfl,hcbl⟩:=HCA.out (by omega)
   obtain ⟨y,hy⟩ : ∃ y,x.code[k]? = some y:=⟨_,aB (by have:=HCL.out;omega)⟩
   have HYM:=h! (aG hy)
   obtain ⟨aa,ca,hIC⟩:=HCX.out k y hy
   have HIC:=h! hIC
   have HAR:=h! hIC.args
   have HN64:=h! hIC.n64
   have HSN:Hid (gQ c.fuel (x.code.take (k+1)) s2=oneS c.fuel y s'):=h! (qC hy HCODE.out)
   clear hy hIC HCODE
   go_wp2_with fail
   clear l7 c7 f7
   refine (aG0 HM1.out HG3.out.stp hfu).mono ?_
   rintro e w4 hq
   rcases hq with ⟨hlt4,rfl,hok⟩ | ⟨heq4,rfl,hok⟩
   ·have hstp:iL c.fuel s' = .go () { s' with steps:=s'.steps+1 }:=by unfold iL;rw [if_neg (by omega)]
    obtain ⟨s4,hs4⟩ : ∃ s4,s4 = { s' with steps:=s'.steps+1 }:=⟨_,rfl⟩
    rw [<-hs4] at hstp hok
    obtain ⟨D2,hm2,ho2,hd2⟩:=hok
    obtain ⟨-,hg4,hck4⟩:=HG3.out.step hstp
    have HM2:=h! hm2
    have HG4:=h! hg4
    have HSTP:=h! hstp
    have HCK:Hid (s4.checks+1 <= s4.steps):=h! hck4
    have HO2b:Hid (Off D w w4):=h! (Off.grow HO1.out ho2 HD1.out)
    have HD2:Hid (∀ q,D2 q -> D q \/ w.heap.size <= q):=h! (fun q hq=>by
     rcases hd2 q hq with h | h
     ·exact HD1.out q h
     exact .inr (aJ HO1.out.size h))
    have B72:=h! (B71.out.off ho2 HN7.out)
    have HN72:Hid (¬ D2 b7):=h! (fun h=>(hd2 _ h).elim HN7.out (fun h=>by have:=B71.out.lt;omega))
    have HB94:Hid (Below w0.heap.size w0 w4):=h! (HB9.out.trans (ho2.below HB9.out.size (fun q _ hq=>by have:=HM1.out.base q hq;have:=HW0.out;omega)))
    obtain ⟨z0,z1,z2,z3, -, -, -, -⟩:=HIC.out.below HB94.out hcbl
    obtain ⟨l7,c7,f7⟩:=B72.out
    clear hlt4 hs4 hstp hck4 hm2 ho2 hd2 hg4
    --@F
    go_wp2_with fail
    clear l7 c7 f7 z0 z1 z2 z3
    refine (aF7 (ar:=f.arrays) (ce:=f.cells) HM2.out (HG4.out.run hfu) (uZ HCH.out HXM.out HYM.out) ⟨_,rfl,HAR.out.below HB94.out⟩ (HIV.out.below HB94.out) HRI.out (fun u hu=>by obtain ⟨t,ht⟩:=aBP HCH.out HXM.out HYM.out hu;exact uL HCH.out HIDS.out ht)).mono ?_
    rintro e w5 hq
    cases hin:fA y s4 with
    | over o s5 =>
     rw [hin] at hq
     obtain ⟨⟨v,rfl⟩,hok⟩:=hq
     have HR:Hid (gP f c.fuel src at_ s = .over o s5):=h! (by
      have h8:=HSN.out
      unfold oneS at h8
      rw [HSTP.out] at h8
      change _=(fA y s4).bind _ at h8
      rw [hin] at h8
      rw [HBLK.out,lX h8];rfl)
     have HOK:=h! (ROk.trans HO2b.out HD2.out hok)
     obtain ⟨D3,hm3, -, -⟩:=hok
     obtain ⟨_,_,_,_,_,hbox⟩:=hm3.box
     have k16:w5.cell? ⟨b,16,none⟩=some (.bool true):=hbox.at 16 rfl
     clear hin hm3 hbox
     go_wp2
     go_ret
     rw [HR.out]
     exact ⟨⟨_,rfl⟩,HOK.out⟩
    | go v s5 =>
     rw [hin] at hq
     obtain ⟨rfl,D3,hm3,ho3,hd3⟩:=hq
     have HNX:Hid (gQ c.fuel (x.code.take (k+1)) s2 = .go () (putS y v s5)):=h! (by
      have h8:=HSN.out
      unfold oneS at h8
      rw [HSTP.out] at h8
      change _=(fA y s4).bind _ at h8
      rw [hin] at h8
      exact h8)
     have HV64:Hid (In64 v):=h! (by
      obtain ⟨_,_,_,_,_,F9,hp9,_⟩:=HM2.out
      exact vA HN64.out hp9.v64 hp9.arr64 HG4.out.len hp9.cel.2 hin)
     have HO5:Hid (Off D w w5):=h! (Off.grow HO2b.out ho3 HD2.out)
     have HD5:Hid (∀ q,D3 q -> D q \/ w.heap.size <= q):=h! (fun q hq=>by
      rcases hd3 q hq with h | h
      ·exact HD2.out q h
      exact .inr (aJ HO2b.out.size h))
     have B75:=h! (B72.out.off ho3 HN72.out)
     have HN75:Hid (¬ D3 b7):=h! (fun h=>(hd3 _ h).elim HN72.out (fun h=>by have:=B72.out.lt;omega))
     have HB95:Hid (Below w0.heap.size w0 w5):=h! (HB94.out.trans (ho3.below HB94.out.size (fun q _ hq=>by have:=HM2.out.base q hq;have:=HW0.out;omega)))
     have HM3:=h! hm3
     obtain ⟨ov5,av5,vv5,xv5,cv5,F5,hP5,hD5⟩:=hm3
     have HP5:=h! hP5
     have HDF5:=h! hD5
     have k16:w5.cell? ⟨b,16,none⟩=some (.bool false):=hP5.box.at 16 rfl
     have hb5:b < w5.heap.size:=hP5.box.lt
     obtain ⟨z0,z1,z2,z3, -, -, -, -⟩:=HIC.out.below HB95.out hcbl
     have HZ1:=h! z1
     have HCBR:Hid (cb < w5.heap.size):=h! (aL hcbl HB95.out.size)
     obtain ⟨l7,c7,f7⟩:=B75.out
     clear ho3 hd3 hP5 hD5
     cases hid:decide (0 <= y.id)
     ·have HPUT:Hid (putS y v s5=s5):=h! (by unfold putS;rw [if_neg (by simpa using hid)])
      clear hin
      --@G
      go_wp2
      go_roundw
      case rel=>exact ⟨k+1,s5,hlt,by go_num,by rw [HNX.out,HPUT.out],D3,HM3.out,HO5.out,HD5.out,HN75.out,B75.out⟩
      simp [intOf];omega
     have HPUT:Hid (putS y v s5=setV s5 y.id v):=h! (by unfold putS;rw [if_pos (by simpa using hid)])
     obtain ⟨j,hj⟩:=List.getElem?_of_mem (aF6 HIDS.out (rS HCH.out HXM.out HYM.out (by simpa using hid)))
     have hjl:=(aE.1 hj).1
     have HJ:=h! hj
     obtain ⟨il,hil⟩ : ∃ il,il=c.ids.length:=⟨_,rfl⟩
     rw [<-hil] at hjl
     obtain ⟨gx,cx,hxv,hFx,hgxl, -, -, -⟩:=HP5.out.setv HRI.out HJ.out HV64.out
     rw [<-hil] at hxv
     have HXV:=h! hxv
     clear hin hj hil hxv hFx
     --@H
     go_upto_region 25 with (fail)
     clear z0 z1 z2 z3 l7 c7 f7 k16 hid
     refine wp_region_grow 14 (fun kz=>match kz with | 11=>.const (.int .i64 (j:Int)) | _=>.plain) (by kernel_rfl) (by kernel_rfl) ?_ (fun ν => ?_)
     ·(intro k;(try dsimp only);split <;> first | exact True.intro | (intro u w1 w2 hu hb;exact hu.below hb))
     simp only [aK,aR,aM,aT]
     iterate 11 (refine Grow.val (v := ?_) rfl rfl (fun wg hbg hdg => ?_) ?_;rotate_left;(focus ((obtain ⟨xl1,xc1,xf1⟩:=(HP5.out.later hbg).box;have q14:wg.cell? ⟨b,14,none⟩=some xv5:=xc1 14;rw [HXV.out] at q14;obtain ⟨xl7,xc7,xf7⟩:=B75.out.later hbg;have z1g:=(hbg.cell (p:=⟨cb,co+k * 4+1,none⟩) HCBR.out).trans HZ1.out;clear xc1 xf1);clear hbg hdg;first | (go_simp;done) | (go_simp;with_reducible rfl)));simp only [Act.put,aA,aC,aD])
     refine Grow.call (f := ?_) (args := ?_) rfl (fun wg => ?_) (fun wg hbg hdg => ?_) ?_
     rotate_left 2
     focus (first | (go_simp;done) | (go_simp;refine And.intro ?_ ?_ <;> with_reducible rfl) | (go_simp;with_reducible rfl))
     focus exact Calls.mono ((aE4 (aL hb5 hbg.size) (((HP5.out.later hbg).box.at 13 rfl).trans (congrArg some HIVF.out)) (HIVF.out ▸ HIV.out.below (HB95.out.trans (hbg.mono HB95.out.size))) HRI.out HJ.out)) (fun e w2 ⟨he,hb2⟩=>⟨_,he,rfl,hb2⟩)
     simp only [Act.put,Known.val,aA,aC,aD]
     iterate 2 (refine Grow.val (v := ?_) rfl rfl (fun wg hbg hdg => ?_) ?_;rotate_left;(focus ((obtain ⟨xl1,xc1,xf1⟩:=(HP5.out.later hbg).box;have q14:wg.cell? ⟨b,14,none⟩=some xv5:=xc1 14;rw [HXV.out] at q14;obtain ⟨xl7,xc7,xf7⟩:=B75.out.later hbg;have z1g:=(hbg.cell (p:=⟨cb,co+k * 4+1,none⟩) HCBR.out).trans HZ1.out;clear xc1 xf1);clear hbg hdg;first | (go_simp;done) | (go_simp;with_reducible rfl)));simp only [Act.put,aA,aC,aD])
     intro wg hb hf hap
     clear hap
     clear hf
     have HPG:=h! (HP5.out.later hb)
     obtain ⟨gx2,cx2,hx2,hFx2,hgx2,hcx2,hfx2,hset⟩:=HPG.out.setv HRI.out HJ.out HV64.out
     obtain rfl:gx=gx2:=by rw [HXV.out] at hx2;injection hx2 with h;injection h with h;injection h
     have HPS:=h! hset
     have HOTD:Hid (Off D3 w5 (wg.setCell ⟨gx,j,none⟩ (.int .i64 v))):=h! ((Off.of_below hb D3).trans ((Off.set wg ⟨gx,j,none⟩ _).mono fun q _ hq=>by cases hq;exact (HDF5.out _).2 ⟨4,hFx2⟩))
     have B79:=h! (B75.out.off HOTD.out HN75.out)
     have HO9:Hid (Off D w (wg.setCell ⟨gx,j,none⟩ (.int .i64 v))):=h! (Off.grow HO5.out HOTD.out HD5.out)
     clear hset hx2 hFx2 hb
     go_wp2
     go_roundw
     case rel=>exact ⟨k+1,setV s5 y.id v,hlt,by go_num,by rw [HNX.out,HPUT.out],D3,⟨ov5,av5,vv5,xv5,cv5,F5,HPS.out,HDF5.out⟩,HO9.out,HD5.out,HN75.out,B79.out⟩
     simp [intOf];omega
   have hstp:iL c.fuel s' = .over ⟨3,0,0⟩ s':=by unfold iL;rw [if_pos heq4]
   have HR:Hid (gP f c.fuel src at_ s = .over ⟨3,0,0⟩ s'):=h! (by
    have h8:=HSN.out
    unfold oneS at h8
    rw [hstp] at h8
    rw [HBLK.out,lX h8];rfl)
   have HOK:=h! (ROk.trans HO1.out HD1.out hok)
   clear hok heq4 hstp
   go_wp2
   go_ret
   rw [HR.out]
   exact ⟨⟨_,rfl⟩,HOK.out⟩
  obtain rfl:cl=k:=by omega
  have HCODE2:Hid (gQ c.fuel x.code s2 = .go () s'):=h! (by
   have h8:=HCODE.out
   rw [aI (by have:=HCL.out;omega)] at h8
   exact h8)
  clear HCODE hlt hk
  --@I
  go_wp2_with fail
  clear l7 c7 f7
  refine (aG0 HM1.out HG3.out.stp hfu).mono ?_
  rintro e w4 hq
  rcases hq with ⟨hlt4,rfl,hok⟩ | ⟨heq4,rfl,hok⟩
  ·have hstp:iL c.fuel s' = .go () { s' with steps:=s'.steps+1 }:=by unfold iL;rw [if_neg (by omega)]
   obtain ⟨s4,hs4⟩ : ∃ s4,s4 = { s' with steps:=s'.steps+1 }:=⟨_,rfl⟩
   rw [<-hs4] at hstp hok
   obtain ⟨D2,hm2,ho2,hd2⟩:=hok
   obtain ⟨-,hg4, -⟩:=HG3.out.step hstp
   have HR:Hid (gP f c.fuel src at_ s=endR x.term s4):=h! (by
    rw [HBLK.out,HCODE2.out]
    show (iL c.fuel s').bind _=_
    rw [hstp];rfl)
   have HG4:=h! hg4
   have HM2:=h! hm2
   have HO4b:Hid (Off D w w4):=h! (Off.grow HO1.out ho2 HD1.out)
   have HD4:Hid (∀ q,D2 q -> D q \/ w.heap.size <= q):=h! (fun q hq=>by
    rcases hd2 q hq with h | h
    ·exact HD1.out q h
    exact .inr (aJ HO1.out.size h))
   have B72:=h! (B71.out.off ho2 HN7.out)
   have HB94:Hid (Below w0.heap.size w0 w4):=h! (HB9.out.trans (ho2.below HB9.out.size (fun q _ hq=>by have:=HM1.out.base q hq;have:=HW0.out;omega)))
   have HE4:=h! (uJ HCH.out HXM.out)
   have HTO:=h! (HC.out.to.below HB94.out)
   rw [<-HTL.out] at HTO
   have HFL:Hid (x.term.op=2 -> s4.vals x.term.val=0 \/ s4.vals x.term.val=1):=h! (fun h2=>hg4.flag _ (nZ HCH.out (lU HXM.out h2) (by simp)))
   have HU2:Hid (x.term.op=2 -> x.term.val ∈ c.ids):=h! (fun h2=>uL HCH.out HIDS.out (lU HXM.out h2))
   have HU3:Hid (x.term.op=3 -> x.term.val ∈ c.ids):=h! (fun h2=>uL HCH.out HIDS.out (wP HXM.out h2))
   have HMO:Hid (∀ W,Below w4.heap.size w4 W -> ROk c w b D s4 ⟨0,0,0⟩ false W):=h! (fun W hb=>ROk.trans HO4b.out HD4.out (ROk.same HM2.out hb))
   clear ho2 hd2 hstp hm2 hg4 hs4 hlt4 HCODE2 HM1 HO1 HD1 HN7 B71 HG3 HB9
   obtain ⟨l7,c7,f7⟩:=B72.out
   obtain ⟨top,htop⟩ : ∃ top,top=x.term.op:=⟨_,rfl⟩
   obtain ⟨tv,htv⟩ : ∃ tv,tv=x.term.val:=⟨_,rfl⟩
   obtain ⟨tn,htn⟩ : ∃ tn,tn=x.term.n:=⟨_,rfl⟩
   obtain ⟨z,hz⟩ : ∃ z,z=s4.vals x.term.val:=⟨_,rfl⟩
   have HEND:Hid (endR x.term s4=if top=3 then .over ⟨1,z,0⟩ s4 else if top=4 then .over ⟨2,0,tn⟩ s4 else if top=2 then .go (x.term.to.getD (1 - z).toNat 0) s4 else .go (x.term.to.getD 0 0) s4):=h! (by rw [htop,htn,hz];rfl)
   rw [<-htop, <-hz] at HFL
   rw [<-htop, <-htv] at HU2 HU3
   have HEK:Hid ((top=1/\tl=1) \/ (top=2/\tl=2) \/ top=3 \/ top=4):=h! (by
    have h9:=HE4.out
    unfold gS at h9
    simp only [aN,bQ,beq_iff_eq] at h9
    rw [htop,HTL.out]
    rcases h9.2 with ((h8 | h8) | h8) | h8
    ·exact .inl ⟨h8.1.1.1,h8.1.1.2⟩
    ·exact .inr (.inl ⟨h8.1.1,h8.1.2⟩)
    ·exact .inr (.inr (.inl h8.1.1))
    exact .inr (.inr (.inr h8.1.1.1)))
   have HZ:Hid (z=s4.vals tv):=h! (by rw [hz,htv])
   rw [<-htop, <-htv, <-htn] at c7 B72
   clear htop htv htn hz
   have hwr1:IntKind.i64.wrap 1=1:=by decide
   have hwr0:IntKind.i64.wrap 0=0:=by decide
   --@J
   rcases HEK.out with ⟨rfl,rfl⟩ | ⟨rfl,rfl⟩ | rfl | rfl
   ·obtain ⟨tb,to_,tc,hte,htb,htx⟩:=fK HTO.out (by rw [<-HTL.out];omega)
    rw [<-HTL.out] at hte
    cases hte
    have ht0:=htx 0 (by rw [<-HTL.out];omega)
    rw [bW] at ht0
    obtain ⟨q,hq⟩ : ∃ q,q=x.term.to.getD 0 0:=⟨_,rfl⟩
    have HR2:Hid (endR x.term s4 = .go q s4):=h! (by rw [HEND.out,hq];rfl)
    rw [<-hq] at ht0
    clear htx hq
    --@K
    go_wp2
    go_ret
    rw [HR.out,HR2.out]
    exact ⟨rfl,HMO.out _ (Below.refl _ _)⟩
   ·obtain ⟨tb,to_,tc,hte,htb,htx⟩:=fK HTO.out (by rw [<-HTL.out];omega)
    rw [<-HTL.out] at hte
    cases hte
    have ht0:=htx 0 (by rw [<-HTL.out];omega)
    have ht1:=htx 1 (by rw [<-HTL.out];omega)
    rw [bW] at ht0
    obtain ⟨q0,hq0⟩ : ∃ q,q=x.term.to.getD 0 0:=⟨_,rfl⟩
    obtain ⟨q1,hq1⟩ : ∃ q,q=x.term.to.getD 1 0:=⟨_,rfl⟩
    rw [<-hq0] at ht0
    rw [<-hq1] at ht1
    have HT0:=h! ht0
    have HT1:=h! ht1
    clear htx ht0 ht1
    --@L
    go_upto_region 36 with (fail)
    go_wp2_with fail
    clear l7 c7 f7
    refine (rGet HM2.out (HIV.out.below HB94.out) HRI.out (HU2.out (by trivial))).mono ?_
    rintro e w6 ⟨rfl,hb6⟩
    have HB6:=h! hb6
    rw [<-HZ.out]
    obtain ⟨l7,c7,f7⟩:=B72.out.later hb6
    have g0:=(hb6.cell (p:=⟨tb,to_,none⟩) htb).trans HT0.out
    have g1:=(hb6.cell (p:=⟨tb,to_+1,none⟩) htb).trans HT1.out
    clear hb6
    rcases HFL.out (by trivial) with hz0 | hz1
    ·have ht:(z == 0)=true:=by simpa using hz0
     have HR2:Hid (endR x.term s4 = .go q1 s4):=h! (by rw [HEND.out,hq1,hz0];rfl)
     clear hz0 hq0 hq1 g0
     go_wp2
     go_ret
     rw [HR.out,HR2.out]
     exact ⟨rfl,HMO.out _ HB6.out⟩
    have ht:(z == 0)=false:=by rw [hz1];rfl
    have HR2:Hid (endR x.term s4 = .go q0 s4):=h! (by rw [HEND.out,hq0,hz1];rfl)
    clear hz1 hq0 hq1 g1
    go_wp2
    go_ret
    rw [HR.out,HR2.out]
    exact ⟨rfl,HMO.out _ HB6.out⟩
   ·have HR2:Hid (endR x.term s4 = .over ⟨1,z,0⟩ s4):=h! (by rw [HEND.out];rfl)
    --@M
    go_wp2_with fail
    clear l7 c7 f7
    refine (rGet HM2.out (HIV.out.below HB94.out) HRI.out (HU3.out (by trivial))).mono ?_
    rintro e w6 ⟨rfl,hb6⟩
    rw [<-HZ.out]
    have HB6:=h! hb6
    clear hb6
    go_wp2_with fail
    refine (rEnd (HM2.out.later HB6.out) 1 z 0).mono ?_
    rintro e w7 ⟨rfl,hb7⟩
    have HR7:=h! hb7
    clear hb7
    go_wp2
    go_ret
    rw [HR.out,HR2.out]
    exact ⟨⟨_,rfl⟩,ROk.trans (HO4b.out.trans (Off.of_below HB6.out D)) HD4.out HR7.out⟩
   have HR2:Hid (endR x.term s4 = .over ⟨2,0,tn⟩ s4):=h! (by rw [HEND.out];rfl)
   --@N
   go_wp2_with fail
   clear l7 c7 f7
   refine (rEnd HM2.out 2 0 tn).mono ?_
   rintro e w7 ⟨rfl,hb7⟩
   have HR7:=h! hb7
   clear hb7
   go_wp2
   go_ret
   rw [HR.out,HR2.out]
   exact ⟨⟨_,rfl⟩,ROk.trans HO4b.out HD4.out HR7.out⟩
  have hstp:iL c.fuel s' = .over ⟨3,0,0⟩ s':=by unfold iL;rw [if_pos heq4]
  have HR:Hid (gP f c.fuel src at_ s = .over ⟨3,0,0⟩ s'):=h! (by
   rw [HBLK.out,HCODE2.out]
   show (iL c.fuel s').bind _=_
   rw [hstp];rfl)
  have HOK:=h! (ROk.trans HO1.out HD1.out hok)
  clear hok heq4 hstp
  go_wp2
  go_ret
  rw [HR.out]
  exact ⟨⟨_,rfl⟩,HOK.out⟩
end Go.Proofs.YtcmflfkpeodicaaGreat
