/- What the claim needs,part 48. -/
import Derived.Test.YtgmhnepmkaonaaaGreatPB47
import Derived.Test.YtgmhnepmkaonaaaGreatPB46
namespace Go.Proofs.YtgmhnepmkaonaaaGreat
set_option linter.unusedSimpArgs false
set_option linter.unusedVariables false
open Go.RowKit
private theorem Since.alloc {w0 W:World} (h:Since w0 W) (o:Obj):Since w0 (W.alloc o):=h.later ((Below.refl _ _).alloc (Nat.le_refl _) o)
set_option maxHeartbeats 12800000 in
set_option maxRecDepth 100000 in
theorem walkLEnds {w:World} {v u:Value} (f:FuncD) (i:InputD) (hv:FuncV w v f) (hi:InputV w u i) :
  Calls Tryz.prog 13 #[v,u] w fun e w'=>e = .returned (.bool true)/\Below w.heap.size w w':=by
 have HV:=Lib.hid hv
 have HI:=Lib.hid hi
 obtain ⟨ap,cp,ab,cb,rfl, -, -, -, -⟩:=hv.form
 obtain ⟨ua,ub,rfl,hua,hub⟩:=hi
 obtain ⟨aa,ca,rfl⟩:=hua.form
 obtain ⟨_,b5,c5,_,_,rfl, -, -, -, -, -, -⟩:=hub.parts
 obtain ⟨nb,hnb⟩ : ∃ nb,nb=f.blocks.length:=⟨_,rfl⟩
 rw [<-hnb] at HV ⊢
 have HNB:=Lib.hid hnb
 clear hua hub hv hnb
 go_enter Tryz.func13,Tryz.ntmps13
 go_upto_region 1 with (fail)
 have B2:Hid (Box ((w.alloc (.cells #[.slice ap f.params.length cp,.int .i64 f.arrays,.int .i64 f.cells,.slice ab nb cb] 25)).alloc (.cells #[.slice aa i.args.length ca,.slice b5 i.arrays.length c5] 44)) (w.heap.size) #[.slice ap f.params.length cp,.int .i64 f.arrays,.int .i64 f.cells,.slice ab nb cb]):=Lib.hid (by simpa using ((Box.new w #[.slice ap f.params.length cp,.int .i64 f.arrays,.int .i64 f.cells,.slice ab nb cb] 25).alloc _))
 have B3:Hid (Box ((w.alloc (.cells #[.slice ap f.params.length cp,.int .i64 f.arrays,.int .i64 f.cells,.slice ab nb cb] 25)).alloc (.cells #[.slice aa i.args.length ca,.slice b5 i.arrays.length c5] 44)) (w.heap.size+1) #[.slice aa i.args.length ca,.slice b5 i.arrays.length c5]):=Lib.hid (by simpa using (Box.new (w.alloc (.cells #[.slice ap f.params.length cp,.int .i64 f.arrays,.int .i64 f.cells,.slice ab nb cb] 25)) #[.slice aa i.args.length ca,.slice b5 i.arrays.length c5] 44))
 have HW:Hid (Below w.heap.size w ((w.alloc (.cells #[.slice ap f.params.length cp,.int .i64 f.arrays,.int .i64 f.cells,.slice ab nb cb] 25)).alloc (.cells #[.slice aa i.args.length ca,.slice b5 i.arrays.length c5] 44))):=Lib.hid (((Below.refl _ _).alloc (Nat.le_refl _) _).alloc (by simp) _)
 generalize ((w.alloc (.cells #[.slice ap f.params.length cp,.int .i64 f.arrays,.int .i64 f.cells,.slice ab nb cb] 25)).alloc (.cells #[.slice aa i.args.length ca,.slice b5 i.arrays.length c5] 44))=wv at *
 obtain ⟨lB2,cB2,fB2⟩:=B2.out
 obtain ⟨lB3,cB3,fB3⟩:=B3.out
 go_wp2_with fail
 refine (runC (fuel:=500) (HV.out.below HW.out) (HI.out.below HW.out) ⟨by omega,by omega⟩).mono ?_
 rintro e w2 ⟨vt,t,rfl,hp,ht,hb⟩
 obtain ⟨ov,av,vv,rfl,ho,ha2,hv2⟩:=ht
 obtain ⟨b1,c1,rfl⟩:=ho.form
 obtain ⟨b3,c3,rfl⟩:=hv2.form
 obtain ⟨_,b6,c6,_,_,rfl, -, -, -, -, -, -⟩:=ha2.parts
 have HP:=Lib.hid hp
 have HVI:=Lib.hid hv2
 have H22:Hid (Since w2 w2):=Lib.hid (Below.refl _ _)
 clear ho ha2 hv2 hp
 clear lB2 cB2 fB2 lB3 cB3 fB3
 replace B2:=Lib.hid (B2.out.later hb)
 replace B3:=Lib.hid (B3.out.later hb)
 replace HW:=Lib.hid (HW.out.trans (hb.mono HW.out.size))
 clear hb
 obtain ⟨lB2,cB2,fB2⟩:=B2.out
 obtain ⟨lB3,cB3,fB3⟩:=B3.out

 go_upto_region 2 with (fail)
 have nB5B2:w2.heap.size ≠ w.heap.size:=fun e=>by have:=lB2;omega
 have nB2B5:w.heap.size ≠ w2.heap.size:=fun e=>nB5B2 e.symm
 have nB5B3:w2.heap.size ≠ w.heap.size+1:=fun e=>by have:=lB3;omega
 have nB3B5:w.heap.size+1 ≠ w2.heap.size:=fun e=>nB5B3 e.symm
 have B2_:Box (w2.alloc (.cells #[.int .i64 t.how,.int .i64 t.value,.int .i64 t.trap,.slice b1 t.out.length c1,.slice b6 t.arrays.length c6,.int .i64 t.steps,.int .i64 t.checks,.slice b3 t.visits.length c3] 49)) (w.heap.size) #[.slice ap f.params.length cp,.int .i64 f.arrays,.int .i64 f.cells,.slice ab nb cb]:=by simpa using (B2.out.alloc _)
 have B3_:Box (w2.alloc (.cells #[.int .i64 t.how,.int .i64 t.value,.int .i64 t.trap,.slice b1 t.out.length c1,.slice b6 t.arrays.length c6,.int .i64 t.steps,.int .i64 t.checks,.slice b3 t.visits.length c3] 49)) (w.heap.size+1) #[.slice aa i.args.length ca,.slice b5 i.arrays.length c5]:=by simpa using (B3.out.alloc _)
 have B5_:Box (w2.alloc (.cells #[.int .i64 t.how,.int .i64 t.value,.int .i64 t.trap,.slice b1 t.out.length c1,.slice b6 t.arrays.length c6,.int .i64 t.steps,.int .i64 t.checks,.slice b3 t.visits.length c3] 49)) (w2.heap.size) #[.int .i64 t.how,.int .i64 t.value,.int .i64 t.trap,.slice b1 t.out.length c1,.slice b6 t.arrays.length c6,.int .i64 t.steps,.int .i64 t.checks,.slice b3 t.visits.length c3]:=by simpa using (Box.new w2 #[.int .i64 t.how,.int .i64 t.value,.int .i64 t.trap,.slice b1 t.out.length c1,.slice b6 t.arrays.length c6,.int .i64 t.steps,.int .i64 t.checks,.slice b3 t.visits.length c3] 49)
 have H22_:=(H22.out.alloc (.cells #[.int .i64 t.how,.int .i64 t.value,.int .i64 t.trap,.slice b1 t.out.length c1,.slice b6 t.arrays.length c6,.int .i64 t.steps,.int .i64 t.checks,.slice b3 t.visits.length c3] 49))
 have HW_:Below w.heap.size w (w2.alloc (.cells #[.int .i64 t.how,.int .i64 t.value,.int .i64 t.trap,.slice b1 t.out.length c1,.slice b6 t.arrays.length c6,.int .i64 t.steps,.int .i64 t.checks,.slice b3 t.visits.length c3] 49)):=(HW.out.alloc (by first | exact Nat.le_refl _ | exact HW.out.size | (simp only [World.size_alloc,World.size_setCell];have:=HW.out.size;omega)) _)
 clear lB2 cB2 fB2 lB3 cB3 fB3
 clear B2 B3 H22 HW
 generalize (w2.alloc (.cells #[.int .i64 t.how,.int .i64 t.value,.int .i64 t.trap,.slice b1 t.out.length c1,.slice b6 t.arrays.length c6,.int .i64 t.steps,.int .i64 t.checks,.slice b3 t.visits.length c3] 49))=w3 at *
 have B2:=Lib.hid B2_
 clear B2_
 have B3:=Lib.hid B3_
 clear B3_
 have B5:=Lib.hid B5_
 clear B5_
 have H22:=Lib.hid H22_
 clear H22_
 have HW:=Lib.hid HW_
 clear HW_
 obtain ⟨lB2,cB2,fB2⟩:=B2.out
 obtain ⟨lB3,cB3,fB3⟩:=B3.out
 obtain ⟨lB5,cB5,fB5⟩:=B5.out
 go_wp2_with fail
 refine (loopsDepths (HV.out.below HW.out)).mono ?_
 rintro e w4 ⟨hb,⟨hn,k,⟨hk, -⟩,rfl⟩ | ⟨hc,hF,dg,rfl,hdi⟩⟩
 ·have hq:(k != 0)=true:=by simpa using hk
  clear hk hn
  clear lB2 cB2 fB2 lB3 cB3 fB3 lB5 cB5 fB5
  replace B2:=Lib.hid (B2.out.later hb)
  replace B3:=Lib.hid (B3.out.later hb)
  replace B5:=Lib.hid (B5.out.later hb)
  replace H22:=Lib.hid (H22.out.later hb)
  replace HW:=Lib.hid (HW.out.trans (hb.mono HW.out.size))
  clear hb
  obtain ⟨lB2,cB2,fB2⟩:=B2.out
  obtain ⟨lB3,cB3,fB3⟩:=B3.out
  obtain ⟨lB5,cB5,fB5⟩:=B5.out
  go_wp2_with fail
  refine (loopsOdd (HV.out.below HW.out)).mono ?_
  rintro e w5 ⟨hb,⟨-,k2, -,rfl⟩ | ⟨-, -,O,oa,oc, -,rfl, -⟩⟩
  ·skip
   clear lB2 cB2 fB2 lB3 cB3 fB3 lB5 cB5 fB5
   replace B2:=Lib.hid (B2.out.later hb)
   replace B3:=Lib.hid (B3.out.later hb)
   replace B5:=Lib.hid (B5.out.later hb)
   replace H22:=Lib.hid (H22.out.later hb)
   replace HW:=Lib.hid (HW.out.trans (hb.mono HW.out.size))
   clear hb
   obtain ⟨lB2,cB2,fB2⟩:=B2.out
   obtain ⟨lB3,cB3,fB3⟩:=B3.out
   obtain ⟨lB5,cB5,fB5⟩:=B5.out
   go_wp2_with fail
   refine awake9.mono ?_
   rintro e w6 ⟨rfl,hb⟩
   clear lB2 cB2 fB2 lB3 cB3 fB3 lB5 cB5 fB5
   replace B2:=Lib.hid (B2.out.later hb)
   replace B3:=Lib.hid (B3.out.later hb)
   replace B5:=Lib.hid (B5.out.later hb)
   replace H22:=Lib.hid (H22.out.later hb)
   replace HW:=Lib.hid (HW.out.trans (hb.mono HW.out.size))
   clear hb
   obtain ⟨lB2,cB2,fB2⟩:=B2.out
   obtain ⟨lB3,cB3,fB3⟩:=B3.out
   obtain ⟨lB5,cB5,fB5⟩:=B5.out
   go_wp2_with fail
   refine awake9.mono ?_
   rintro e w7 ⟨rfl,hb⟩
   clear lB2 cB2 fB2 lB3 cB3 fB3 lB5 cB5 fB5
   replace B2:=Lib.hid (B2.out.later hb)
   replace B3:=Lib.hid (B3.out.later hb)
   replace B5:=Lib.hid (B5.out.later hb)
   replace H22:=Lib.hid (H22.out.later hb)
   replace HW:=Lib.hid (HW.out.trans (hb.mono HW.out.size))
   clear hb
   obtain ⟨lB2,cB2,fB2⟩:=B2.out
   obtain ⟨lB3,cB3,fB3⟩:=B3.out
   obtain ⟨lB5,cB5,fB5⟩:=B5.out
   go_wp2
   go_ret
   exact ⟨rfl,HW.out⟩
  ·skip
   clear lB2 cB2 fB2 lB3 cB3 fB3 lB5 cB5 fB5
   replace B2:=Lib.hid (B2.out.later hb)
   replace B3:=Lib.hid (B3.out.later hb)
   replace B5:=Lib.hid (B5.out.later hb)
   replace H22:=Lib.hid (H22.out.later hb)
   replace HW:=Lib.hid (HW.out.trans (hb.mono HW.out.size))
   clear hb
   obtain ⟨lB2,cB2,fB2⟩:=B2.out
   obtain ⟨lB3,cB3,fB3⟩:=B3.out
   obtain ⟨lB5,cB5,fB5⟩:=B5.out
   go_wp2_with fail
   refine awake9.mono ?_
   rintro e w6 ⟨rfl,hb⟩
   clear lB2 cB2 fB2 lB3 cB3 fB3 lB5 cB5 fB5
   replace B2:=Lib.hid (B2.out.later hb)
   replace B3:=Lib.hid (B3.out.later hb)
   replace B5:=Lib.hid (B5.out.later hb)
   replace H22:=Lib.hid (H22.out.later hb)
   replace HW:=Lib.hid (HW.out.trans (hb.mono HW.out.size))
   clear hb
   obtain ⟨lB2,cB2,fB2⟩:=B2.out
   obtain ⟨lB3,cB3,fB3⟩:=B3.out
   obtain ⟨lB5,cB5,fB5⟩:=B5.out
   go_wp2_with fail
   refine awake9.mono ?_
   rintro e w7 ⟨rfl,hb⟩
   clear lB2 cB2 fB2 lB3 cB3 fB3 lB5 cB5 fB5
   replace B2:=Lib.hid (B2.out.later hb)
   replace B3:=Lib.hid (B3.out.later hb)
   replace B5:=Lib.hid (B5.out.later hb)
   replace H22:=Lib.hid (H22.out.later hb)
   replace HW:=Lib.hid (HW.out.trans (hb.mono HW.out.size))
   clear hb
   obtain ⟨lB2,cB2,fB2⟩:=B2.out
   obtain ⟨lB3,cB3,fB3⟩:=B3.out
   obtain ⟨lB5,cB5,fB5⟩:=B5.out
   go_wp2
   go_ret
   exact ⟨rfl,HW.out⟩
 have HC:=Lib.hid (And.intro hc hF)
 have HDI:Hid (Ints w4 (.slice (some ⟨dg,0,none⟩) nb nb) (depthsF f)):=Lib.hid (by rw [HNB.out];exact hdi)
 rw [<-HNB.out]
 have H44:Hid (Since w4 w4):=Lib.hid (Below.refl _ _)
 clear hc hF hdi
 clear lB2 cB2 fB2 lB3 cB3 fB3 lB5 cB5 fB5
 replace B2:=Lib.hid (B2.out.later hb)
 replace B3:=Lib.hid (B3.out.later hb)
 replace B5:=Lib.hid (B5.out.later hb)
 replace H22:=Lib.hid (H22.out.later hb)
 replace HW:=Lib.hid (HW.out.trans (hb.mono HW.out.size))
 clear hb
 obtain ⟨lB2,cB2,fB2⟩:=B2.out
 obtain ⟨lB3,cB3,fB3⟩:=B3.out
 obtain ⟨lB5,cB5,fB5⟩:=B5.out

 go_wp2_with fail
 refine (loopsOdd (HV.out.below HW.out)).mono ?_
 rintro e w5 ⟨hb,⟨hn, -⟩ | ⟨-, -,O,oa,oc,hO,rfl, -⟩⟩
 ·exact absurd HC.out hn
 obtain ⟨no,hno⟩ : ∃ no,no=(oddF f O).length:=⟨_,rfl⟩
 rw [<-hno]
 have HNO:=Lib.hid hno
 have HO:=Lib.hid hO
 clear hno hO
 clear lB2 cB2 fB2 lB3 cB3 fB3 lB5 cB5 fB5
 replace B2:=Lib.hid (B2.out.later hb)
 replace B3:=Lib.hid (B3.out.later hb)
 replace B5:=Lib.hid (B5.out.later hb)
 replace H22:=Lib.hid (H22.out.later hb)
 replace H44:=Lib.hid (H44.out.later hb)
 replace HW:=Lib.hid (HW.out.trans (hb.mono HW.out.size))
 clear hb
 obtain ⟨lB2,cB2,fB2⟩:=B2.out
 obtain ⟨lB3,cB3,fB3⟩:=B3.out
 obtain ⟨lB5,cB5,fB5⟩:=B5.out
 go_wp2_with fail
 refine awake9.mono ?_
 rintro e w6 ⟨rfl,hb⟩
 clear lB2 cB2 fB2 lB3 cB3 fB3 lB5 cB5 fB5
 replace B2:=Lib.hid (B2.out.later hb)
 replace B3:=Lib.hid (B3.out.later hb)
 replace B5:=Lib.hid (B5.out.later hb)
 replace H22:=Lib.hid (H22.out.later hb)
 replace H44:=Lib.hid (H44.out.later hb)
 replace HW:=Lib.hid (HW.out.trans (hb.mono HW.out.size))
 clear hb
 obtain ⟨lB2,cB2,fB2⟩:=B2.out
 obtain ⟨lB3,cB3,fB3⟩:=B3.out
 obtain ⟨lB5,cB5,fB5⟩:=B5.out
 by_cases h6:t.how=6
 ·have hq:(t.how == 6)=true:=by simpa using h6
  clear h6
  go_wp2_with fail
  refine awake9.mono ?_
  rintro e w7 ⟨rfl,hb⟩
  clear lB2 cB2 fB2 lB3 cB3 fB3 lB5 cB5 fB5
  replace B2:=Lib.hid (B2.out.later hb)
  replace B3:=Lib.hid (B3.out.later hb)
  replace B5:=Lib.hid (B5.out.later hb)
  replace H22:=Lib.hid (H22.out.later hb)
  replace H44:=Lib.hid (H44.out.later hb)
  replace HW:=Lib.hid (HW.out.trans (hb.mono HW.out.size))
  clear hb
  obtain ⟨lB2,cB2,fB2⟩:=B2.out
  obtain ⟨lB3,cB3,fB3⟩:=B3.out
  obtain ⟨lB5,cB5,fB5⟩:=B5.out
  go_wp2
  go_ret
  exact ⟨rfl,HW.out⟩
 have hq:(t.how == 6)=false:=by simpa using h6
 by_cases h0:0 < no
 ·clear h6
  go_wp2_with fail
  refine awake9.mono ?_
  rintro e w7 ⟨rfl,hb⟩
  clear lB2 cB2 fB2 lB3 cB3 fB3 lB5 cB5 fB5
  replace B2:=Lib.hid (B2.out.later hb)
  replace B3:=Lib.hid (B3.out.later hb)
  replace B5:=Lib.hid (B5.out.later hb)
  replace H22:=Lib.hid (H22.out.later hb)
  replace H44:=Lib.hid (H44.out.later hb)
  replace HW:=Lib.hid (HW.out.trans (hb.mono HW.out.size))
  clear hb
  obtain ⟨lB2,cB2,fB2⟩:=B2.out
  obtain ⟨lB3,cB3,fB3⟩:=B3.out
  obtain ⟨lB5,cB5,fB5⟩:=B5.out
  go_wp2
  go_ret
  exact ⟨rfl,HW.out⟩
 obtain ⟨hvl,hlaw⟩:=loops_end (fuel:=500) (by omega) HP.out h6 (pl:=fun b=>O.idxOf b) (fun b p hb hl=>odd_none (check_fine HC.out.1).1 (List.eq_nil_of_length_eq_zero (by rw [<-HNO.out];omega)) b p hb hl)
 rw [<-HNB.out] at hvl
 have HLAW:=Lib.hid hlaw
 have HVL:=Lib.hid hvl
 have hnb:=formB_nb (check_fine HC.out.1).1
 rw [<-HNB.out] at hnb
 obtain ⟨n1,n2⟩:=hnb
 obtain ⟨gb,gof,gc,he,hgl, -, -,hgx⟩:=ints_cells HVI.out (by omega)
 injection he with e1 e2 e3
 subst e1
 subst e3
 have HGX:=Lib.hid hgx
 have hdl:(depthsF f).length=nb:=by unfold depthsF;rw [depK_len,HNB.out]
 obtain ⟨xb,xof,xc,he,hxl, -, -,hxx⟩:=ints_cells HDI.out (by omega)
 injection he with e1 e4 e3
 injection e1 with e1
 injection e1 with e1 e5 e6
 subst e1
 subst e5
 have HXX:=Lib.hid hxx
 have HDL:=Lib.hid hdl
 rw [hvl] at B5
 clear hlaw hvl h6 hgx hxx hdl e2 e3 e4
 go_wp2_with fail
 clear h0
 have HW6:=HW
 have B56:=B5
 have H226:=H22
 have H446:=H44
 clear lB2 cB2 fB2 lB3 cB3 fB3 lB5 cB5 fB5
 go_loopw [10] (fun iv wr => ∃ k:Nat,k <= nb/\iv = .int .i64 k/\Below w6.heap.size w6 wr) (fun iv _=>nb - (intOf iv).toNat)
 case atStart=>exact ⟨0,Nat.zero_le _,rfl,Below.refl _ _⟩
 case round =>
  obtain ⟨k,hk,rfl,hl⟩:=hrel
  clear HW B5 B2 B3 H22 H44
  have HW:Hid (Below w.heap.size w wr):=Lib.hid (HW6.out.trans (hl.mono HW6.out.size))
  have B5:=Lib.hid (B56.out.later hl)
  have H22:Hid (Since w2 wr):=Lib.hid (H226.out.trans (hl.mono H226.out.size))
  have H44:Hid (Since w4 wr):=Lib.hid (H446.out.trans (hl.mono H446.out.size))
  have HL:=Lib.hid hl
  clear hl




  obtain ⟨lB5,cB5,fB5⟩:=B5.out
  by_cases hlt:k < nb
  ·have z1:=(H22.out.cell (p:=⟨gb,gof+k,none⟩) hgl).trans (HGX.out k (by rw [HVL.out];exact hlt))
   have z2:=(H44.out.cell (p:=⟨dg,0+k,none⟩) hxl).trans (HXX.out k (by rw [HDL.out];exact hlt))
   have hl1:=HLAW.out k (by rw [HVL.out];exact hlt)
   obtain ⟨vk,hvk⟩ : ∃ vk,vk=t.visits.getD k 0:=⟨_,rfl⟩
   obtain ⟨dk,hdk⟩ : ∃ dk,dk=(depthsF f).getD k 0:=⟨_,rfl⟩
   rw [<-hvk] at z1 hl1
   rw [<-hdk] at z2 hl1
   rw [Nat.zero_add] at z2
   clear hvk hdk
   by_cases h1:1 < vk
   ·have q1:decide (1 < vk)=true:=by simpa using h1
    have q2:(dk == 0)=false:=by simpa using hl1 h1
    clear h1 hl1
    go_wp2
    clear lB5 cB5 fB5
    go_roundw
    case rel=>exact ⟨k+1,hlt,by go_num,HL.out⟩
    case measure=>simp [intOf];omega
   ·have q1:decide (1 < vk)=false:=by simpa using h1
    clear h1 hl1
    go_wp2
    clear lB5 cB5 fB5
    go_roundw
    case rel=>exact ⟨k+1,hlt,by go_num,HL.out⟩
    case measure=>simp [intOf];omega
  ·obtain rfl:nb=k:=by omega
   go_wp2
   go_ret
   exact ⟨rfl,HW.out⟩
end Go.Proofs.YtgmhnepmkaonaaaGreat
