/- What the claim needs,part 52. -/
import Derived.Test.YtblgdccoeecodaaQ347
import Derived.Test.YtblgdccoeecodaaQ350
import Derived.Test.YtblgdccoeecodaaQ351
namespace Go.Proofs.Ytblgdccoeecodaa
set_option linter.unusedSimpArgs false
set_option linter.unusedVariables false
open Go.RowKit
set_option maxHeartbeats 6400000 in
theorem walkGPrunes {w:World} {v:Value} (f:FuncD) (hv:FuncV w v f) :
  Calls Try.prog 3 #[v] w fun e w'=>e = .returned (.bool true)/\Below w.heap.size w w':=by
 have HV:=Lib.hid hv
 obtain ⟨ap,cp,ab,cb,rfl, -, -, -, -⟩:=hv.form
 clear hv
 go_enter Try.func3,Try.ntmps3
 go_upto_region 1 with (fail)
 have B1:Hid (Box (w.alloc (.cells #[.slice ap f.params.length cp,.int .i64 f.arrays,.int .i64 f.cells,.slice ab f.blocks.length cb] 25)) (w.heap.size) #[.slice ap f.params.length cp,.int .i64 f.arrays,.int .i64 f.cells,.slice ab f.blocks.length cb]):=Lib.hid (by simpa using (Box.new w #[.slice ap f.params.length cp,.int .i64 f.arrays,.int .i64 f.cells,.slice ab f.blocks.length cb] 25))
 have HW:Hid (Below w.heap.size w (w.alloc (.cells #[.slice ap f.params.length cp,.int .i64 f.arrays,.int .i64 f.cells,.slice ab f.blocks.length cb] 25))):=Lib.hid ((Below.refl _ _).alloc (Nat.le_refl _) _)
 generalize (w.alloc (.cells #[.slice ap f.params.length cp,.int .i64 f.arrays,.int .i64 f.cells,.slice ab f.blocks.length cb] 25))=wv at *
 obtain ⟨lB1,cB1,fB1⟩:=B1.out
 go_wp2_with fail
 refine (graphPrune (HV.out.below HW.out)).mono ?_
 rintro e w2 ⟨va,S,rfl,hO, -,hb⟩
 obtain ⟨fa,hfa⟩ : ∃ fa,fa=pruneF f:=⟨_,rfl⟩
 rw [<-hfa] at hO ⊢
 have HFA:=Lib.hid hfa
 have HA:=Lib.hid hO.reads
 obtain ⟨ap2,cp2,ab2,cb2,rfl, -, -, -, -⟩:=hO.reads.form
 clear hO hfa
 obtain ⟨ea,hea⟩ : ∃ ea,ea=fa.2:=⟨_,rfl⟩
 rw [<-hea]
 have HEA:=Lib.hid hea
 clear hea
 clear lB1 cB1 fB1
 replace B1:=Lib.hid (B1.out.later hb)
 replace HW:=Lib.hid (HW.out.trans (hb.mono HW.out.size))
 clear hb
 obtain ⟨lB1,cB1,fB1⟩:=B1.out

 go_upto_region 2 with (fail)
 have nB2B1:w2.heap.size ≠ w.heap.size:=fun e=>by have:=lB1;omega
 have nB1B2:w.heap.size ≠ w2.heap.size:=fun e=>nB2B1 e.symm
 have B1_:Box (w2.alloc (.cells #[.slice ap2 fa.1.params.length cp2,.int .i64 fa.1.arrays,.int .i64 fa.1.cells,.slice ab2 fa.1.blocks.length cb2] 25)) (w.heap.size) #[.slice ap f.params.length cp,.int .i64 f.arrays,.int .i64 f.cells,.slice ab f.blocks.length cb]:=by simpa using (B1.out.alloc _)
 have B2_:Box (w2.alloc (.cells #[.slice ap2 fa.1.params.length cp2,.int .i64 fa.1.arrays,.int .i64 fa.1.cells,.slice ab2 fa.1.blocks.length cb2] 25)) (w2.heap.size) #[.slice ap2 fa.1.params.length cp2,.int .i64 fa.1.arrays,.int .i64 fa.1.cells,.slice ab2 fa.1.blocks.length cb2]:=by simpa using (Box.new w2 #[.slice ap2 fa.1.params.length cp2,.int .i64 fa.1.arrays,.int .i64 fa.1.cells,.slice ab2 fa.1.blocks.length cb2] 25)
 have HA_:=(HA.out.alloc (.cells #[.slice ap2 fa.1.params.length cp2,.int .i64 fa.1.arrays,.int .i64 fa.1.cells,.slice ab2 fa.1.blocks.length cb2] 25))
 have HW_:Below w.heap.size w (w2.alloc (.cells #[.slice ap2 fa.1.params.length cp2,.int .i64 fa.1.arrays,.int .i64 fa.1.cells,.slice ab2 fa.1.blocks.length cb2] 25)):=(HW.out.alloc (by first | exact Nat.le_refl _ | exact HW.out.size | (simp only [World.size_alloc,World.size_setCell];have:=HW.out.size;omega)) _)
 clear lB1 cB1 fB1
 clear B1 HA HW
 generalize (w2.alloc (.cells #[.slice ap2 fa.1.params.length cp2,.int .i64 fa.1.arrays,.int .i64 fa.1.cells,.slice ab2 fa.1.blocks.length cb2] 25))=w3 at *
 have B1:=Lib.hid B1_
 clear B1_
 have B2:=Lib.hid B2_
 clear B2_
 have HA:=Lib.hid HA_
 clear HA_
 have HW:=Lib.hid HW_
 clear HW_
 obtain ⟨lB1,cB1,fB1⟩:=B1.out
 obtain ⟨lB2,cB2,fB2⟩:=B2.out
 go_wp2_with fail
 refine (refPrune (HV.out.below HW.out)).mono ?_
 rintro e w4 ⟨vb,S2,rfl,hO, -,hb⟩
 rw [<-HFA.out] at hO ⊢
 have HB:=Lib.hid hO.reads
 obtain ⟨ap3,cp3,ab3,cb3,rfl, -, -, -, -⟩:=hO.reads.form
 clear hO
 rw [<-HEA.out]
 clear lB1 cB1 fB1 lB2 cB2 fB2
 replace B1:=Lib.hid (B1.out.later hb)
 replace B2:=Lib.hid (B2.out.later hb)
 replace HA:=Lib.hid (HA.out.later hb)
 replace HW:=Lib.hid (HW.out.trans (hb.mono HW.out.size))
 clear hb
 obtain ⟨lB1,cB1,fB1⟩:=B1.out
 obtain ⟨lB2,cB2,fB2⟩:=B2.out

 go_upto_region 3 with (fail)
 have nB3B1:w4.heap.size ≠ w.heap.size:=fun e=>by have:=lB1;omega
 have nB1B3:w.heap.size ≠ w4.heap.size:=fun e=>nB3B1 e.symm
 have nB3B2:w4.heap.size ≠ w2.heap.size:=fun e=>by have:=lB2;omega
 have nB2B3:w2.heap.size ≠ w4.heap.size:=fun e=>nB3B2 e.symm
 have B1_:Box (w4.alloc (.cells #[.slice ap3 fa.1.params.length cp3,.int .i64 fa.1.arrays,.int .i64 fa.1.cells,.slice ab3 fa.1.blocks.length cb3] 25)) (w.heap.size) #[.slice ap f.params.length cp,.int .i64 f.arrays,.int .i64 f.cells,.slice ab f.blocks.length cb]:=by simpa using (B1.out.alloc _)
 have B2_:Box (w4.alloc (.cells #[.slice ap3 fa.1.params.length cp3,.int .i64 fa.1.arrays,.int .i64 fa.1.cells,.slice ab3 fa.1.blocks.length cb3] 25)) (w2.heap.size) #[.slice ap2 fa.1.params.length cp2,.int .i64 fa.1.arrays,.int .i64 fa.1.cells,.slice ab2 fa.1.blocks.length cb2]:=by simpa using (B2.out.alloc _)
 have B3_:Box (w4.alloc (.cells #[.slice ap3 fa.1.params.length cp3,.int .i64 fa.1.arrays,.int .i64 fa.1.cells,.slice ab3 fa.1.blocks.length cb3] 25)) (w4.heap.size) #[.slice ap3 fa.1.params.length cp3,.int .i64 fa.1.arrays,.int .i64 fa.1.cells,.slice ab3 fa.1.blocks.length cb3]:=by simpa using (Box.new w4 #[.slice ap3 fa.1.params.length cp3,.int .i64 fa.1.arrays,.int .i64 fa.1.cells,.slice ab3 fa.1.blocks.length cb3] 25)
 have HA_:=(HA.out.alloc (.cells #[.slice ap3 fa.1.params.length cp3,.int .i64 fa.1.arrays,.int .i64 fa.1.cells,.slice ab3 fa.1.blocks.length cb3] 25))
 have HB_:=(HB.out.alloc (.cells #[.slice ap3 fa.1.params.length cp3,.int .i64 fa.1.arrays,.int .i64 fa.1.cells,.slice ab3 fa.1.blocks.length cb3] 25))
 have HW_:Below w.heap.size w (w4.alloc (.cells #[.slice ap3 fa.1.params.length cp3,.int .i64 fa.1.arrays,.int .i64 fa.1.cells,.slice ab3 fa.1.blocks.length cb3] 25)):=(HW.out.alloc (by first | exact Nat.le_refl _ | exact HW.out.size | (simp only [World.size_alloc,World.size_setCell];have:=HW.out.size;omega)) _)
 clear lB1 cB1 fB1 lB2 cB2 fB2
 clear B1 B2 HA HB HW
 generalize (w4.alloc (.cells #[.slice ap3 fa.1.params.length cp3,.int .i64 fa.1.arrays,.int .i64 fa.1.cells,.slice ab3 fa.1.blocks.length cb3] 25))=w5 at *
 have B1:=Lib.hid B1_
 clear B1_
 have B2:=Lib.hid B2_
 clear B2_
 have B3:=Lib.hid B3_
 clear B3_
 have HA:=Lib.hid HA_
 clear HA_
 have HB:=Lib.hid HB_
 clear HB_
 have HW:=Lib.hid HW_
 clear HW_
 obtain ⟨lB1,cB1,fB1⟩:=B1.out
 obtain ⟨lB2,cB2,fB2⟩:=B2.out
 obtain ⟨lB3,cB3,fB3⟩:=B3.out
 go_wp2_with fail
 refine awake3.mono ?_
 rintro e w6 ⟨rfl,hb⟩
 clear lB1 cB1 fB1 lB2 cB2 fB2 lB3 cB3 fB3
 replace B1:=Lib.hid (B1.out.later hb)
 replace B2:=Lib.hid (B2.out.later hb)
 replace B3:=Lib.hid (B3.out.later hb)
 replace HA:=Lib.hid (HA.out.later hb)
 replace HB:=Lib.hid (HB.out.later hb)
 replace HW:=Lib.hid (HW.out.trans (hb.mono HW.out.size))
 clear hb
 obtain ⟨lB1,cB1,fB1⟩:=B1.out
 obtain ⟨lB2,cB2,fB2⟩:=B2.out
 obtain ⟨lB3,cB3,fB3⟩:=B3.out
 have hee:(ea == ea)=true:=by simp
 go_wp2_with fail
 refine (refSame HA.out HB.out).mono ?_
 rintro e w7 ⟨rfl,hb⟩
 rw [show decide (fa.1=fa.1)=true by simp]
 clear lB1 cB1 fB1 lB2 cB2 fB2 lB3 cB3 fB3
 replace B1:=Lib.hid (B1.out.later hb)
 replace B2:=Lib.hid (B2.out.later hb)
 replace B3:=Lib.hid (B3.out.later hb)
 replace HA:=Lib.hid (HA.out.later hb)
 replace HB:=Lib.hid (HB.out.later hb)
 replace HW:=Lib.hid (HW.out.trans (hb.mono HW.out.size))
 clear hb
 obtain ⟨lB1,cB1,fB1⟩:=B1.out
 obtain ⟨lB2,cB2,fB2⟩:=B2.out
 obtain ⟨lB3,cB3,fB3⟩:=B3.out
 go_wp2
 go_ret
 exact ⟨rfl,HW.out⟩
theorem fault_reach {f:FuncD} {b k:Int} (h:FaultR f b k):k=4 \/ (∀ d,d < f.blocks.length -> Way (toB f) (-1) d):=by
 rcases h with ⟨c, -, -, -, -,h⟩ | ⟨h1, -⟩
 ·exact .inl h
 ·exact .inr h1
theorem fault_all {f:FuncD} {b k:Int} (h:FaultR f b k) (h1:∀ d,d < f.blocks.length -> Way (toB f) (-1) d):k ≠ 4:=by
 rcases h with ⟨c,hc,hn, -, -, -⟩ | ⟨-,⟨c,x, -, -, -, -,rfl⟩ | ⟨-,⟨i,u, -, -, -, -,rfl⟩ | ⟨-, -,rfl⟩⟩⟩
 ·exact absurd (h1 c hc) hn
 ·decide
 ·decide
 ·decide
set_option maxHeartbeats 12800000 in
set_option maxRecDepth 100000 in
theorem walkSPrunes {w:World} {v:Value} (f:FuncD) (hv:FuncV w v f) :
  Calls Try.prog 5 #[v] w fun e w'=>e = .returned (.bool true)/\Below w.heap.size w w':=by
 have HV:=Lib.hid hv
 obtain ⟨ap,cp,ab,cb,rfl, -, -, -, -⟩:=hv.form
 clear hv
 go_enter Try.func5,Try.ntmps5
 go_upto_region 1 with (fail)
 have B1:Hid (Box (w.alloc (.cells #[.slice ap f.params.length cp,.int .i64 f.arrays,.int .i64 f.cells,.slice ab f.blocks.length cb] 25)) (w.heap.size) #[.slice ap f.params.length cp,.int .i64 f.arrays,.int .i64 f.cells,.slice ab f.blocks.length cb]):=Lib.hid (by simpa using (Box.new w #[.slice ap f.params.length cp,.int .i64 f.arrays,.int .i64 f.cells,.slice ab f.blocks.length cb] 25))
 have HW:Hid (Below w.heap.size w (w.alloc (.cells #[.slice ap f.params.length cp,.int .i64 f.arrays,.int .i64 f.cells,.slice ab f.blocks.length cb] 25))):=Lib.hid ((Below.refl _ _).alloc (Nat.le_refl _) _)
 generalize (w.alloc (.cells #[.slice ap f.params.length cp,.int .i64 f.arrays,.int .i64 f.cells,.slice ab f.blocks.length cb] 25))=wv at *
 obtain ⟨lB1,cB1,fB1⟩:=B1.out
 go_wp2_with fail
 refine (checkG (HV.out.below HW.out)).mono ?_
 rintro e w2 ⟨b,k,rfl,h1,h2,hb⟩
 have H1:=Lib.hid h1
 have H2:=Lib.hid h2
 clear h1 h2
 clear lB1 cB1 fB1
 replace B1:=Lib.hid (B1.out.later hb)
 replace HW:=Lib.hid (HW.out.trans (hb.mono HW.out.size))
 clear hb
 obtain ⟨lB1,cB1,fB1⟩:=B1.out
 go_wp2_with fail
 refine (graphPrune (HV.out.below HW.out)).mono ?_
 rintro e w3 ⟨va,S,rfl,hO, -,hb⟩
 obtain ⟨⟨fa,ea⟩,hfa⟩ : ∃ fa,fa=pruneF f:=⟨_,rfl⟩
 rw [<-hfa] at hO ⊢
 simp only at hO ⊢
 have HFA:=Lib.hid hfa
 have HA:=Lib.hid hO.reads
 obtain ⟨ap2,cp2,ab2,cb2,rfl, -, -, -, -⟩:=hO.reads.form
 clear hO hfa
 clear lB1 cB1 fB1
 replace B1:=Lib.hid (B1.out.later hb)
 replace HW:=Lib.hid (HW.out.trans (hb.mono HW.out.size))
 clear hb
 obtain ⟨lB1,cB1,fB1⟩:=B1.out

 go_upto_region 3 with (fail)
 have nB2B1:w3.heap.size ≠ w.heap.size:=fun e=>by have:=lB1;omega
 have nB1B2:w.heap.size ≠ w3.heap.size:=fun e=>nB2B1 e.symm
 have B1_:Box (w3.alloc (.cells #[.slice ap2 fa.params.length cp2,.int .i64 fa.arrays,.int .i64 fa.cells,.slice ab2 fa.blocks.length cb2] 25)) (w.heap.size) #[.slice ap f.params.length cp,.int .i64 f.arrays,.int .i64 f.cells,.slice ab f.blocks.length cb]:=by simpa using (B1.out.alloc _)
 have B2_:Box (w3.alloc (.cells #[.slice ap2 fa.params.length cp2,.int .i64 fa.arrays,.int .i64 fa.cells,.slice ab2 fa.blocks.length cb2] 25)) (w3.heap.size) #[.slice ap2 fa.params.length cp2,.int .i64 fa.arrays,.int .i64 fa.cells,.slice ab2 fa.blocks.length cb2]:=by simpa using (Box.new w3 #[.slice ap2 fa.params.length cp2,.int .i64 fa.arrays,.int .i64 fa.cells,.slice ab2 fa.blocks.length cb2] 25)
 have HA_:=(HA.out.alloc (.cells #[.slice ap2 fa.params.length cp2,.int .i64 fa.arrays,.int .i64 fa.cells,.slice ab2 fa.blocks.length cb2] 25))
 have HW_:Below w.heap.size w (w3.alloc (.cells #[.slice ap2 fa.params.length cp2,.int .i64 fa.arrays,.int .i64 fa.cells,.slice ab2 fa.blocks.length cb2] 25)):=(HW.out.alloc (by first | exact Nat.le_refl _ | exact HW.out.size | (simp only [World.size_alloc,World.size_setCell];have:=HW.out.size;omega)) _)
 clear lB1 cB1 fB1
 clear B1 HA HW
 generalize (w3.alloc (.cells #[.slice ap2 fa.params.length cp2,.int .i64 fa.arrays,.int .i64 fa.cells,.slice ab2 fa.blocks.length cb2] 25))=w4 at *
 have B1:=Lib.hid B1_
 clear B1_
 have B2:=Lib.hid B2_
 clear B2_
 have HA:=Lib.hid HA_
 clear HA_
 have HW:=Lib.hid HW_
 clear HW_
 obtain ⟨lB1,cB1,fB1⟩:=B1.out
 obtain ⟨lB2,cB2,fB2⟩:=B2.out
 go_wp2_with fail
 refine awake5.mono ?_
 rintro e w5 ⟨rfl,hb⟩
 clear lB1 cB1 fB1 lB2 cB2 fB2
 replace B1:=Lib.hid (B1.out.later hb)
 replace B2:=Lib.hid (B2.out.later hb)
 replace HA:=Lib.hid (HA.out.later hb)
 replace HW:=Lib.hid (HW.out.trans (hb.mono HW.out.size))
 clear hb
 obtain ⟨lB1,cB1,fB1⟩:=B1.out
 obtain ⟨lB2,cB2,fB2⟩:=B2.out
 cases hk:(k == 0)
 rotate_left
 ·obtain rfl:k=0:=by simpa using hk
  have hc:checkF f=0:=Classical.byContradiction fun h=>h (H1.out h).2.symm
  have hall:=(fault_reach (H2.out hc)).resolve_left (by decide)
  have hp:=prune_self hc hall
  have h9:=HFA.out
  rw [hp] at h9
  obtain ⟨rfl,rfl⟩ : fa=f/\ea=0:=by cases h9;exact ⟨rfl,rfl⟩
  clear h9 hp hall hc HFA H1 H2
  go_wp2_with fail
  refine (refSame (HV.out.below HW.out) HA.out).mono ?_
  rintro e w6 ⟨rfl,hb⟩
  rw [show decide (fa=fa)=true by simp]
  clear lB1 cB1 fB1 lB2 cB2 fB2
  replace B1:=Lib.hid (B1.out.later hb)
  replace B2:=Lib.hid (B2.out.later hb)
  replace HA:=Lib.hid (HA.out.later hb)
  replace HW:=Lib.hid (HW.out.trans (hb.mono HW.out.size))
  clear hb
  obtain ⟨lB1,cB1,fB1⟩:=B1.out
  obtain ⟨lB2,cB2,fB2⟩:=B2.out
  go_wp2
  go_ret
  exact ⟨rfl,HW.out⟩
 cases he:(ea != 0)
 rotate_left
 ·skip
  go_wp2
  go_ret
  exact ⟨rfl,HW.out⟩
 obtain rfl:ea=0:=by simpa using he
 obtain ⟨t1,t2,t3,t4,t5⟩:=prune_twice (f:=f) (by rw [<-HFA.out])
 have hfe:fa=prunedF f:=by
  have h9:=HFA.out
  rw [t3] at h9
  exact congrArg Prod.fst h9
 have HC2:Hid (checkF fa=0):=Lib.hid (by rw [hfe];exact t2)
 have HALL:Hid (∀ d,d < fa.blocks.length -> Way (toB fa) (-1) d):=Lib.hid (by rw [hfe];exact t5)
 have HOR:Hid (k=4 \/ fa=f):=Lib.hid ((fault_reach (H2.out t1)).imp id fun h=>by rw [hfe];exact pruned_self (check_fine t1).1 h)
 have HK:Hid (FaultR f b k):=Lib.hid (H2.out t1)
 clear t1 t2 t3 t4 t5 hfe HFA H1 H2
 go_wp2_with fail
 clear he hk
 refine (checkG HA.out).mono ?_
 rintro e w6 ⟨b2,k2,rfl, -,h2,hb⟩
 have hf2:=h2 HC2.out
 have hk4:=fault_all hf2 HALL.out
 have h41:(k2 != 4)=true:=by simpa using hk4
 clear h2
 clear lB1 cB1 fB1 lB2 cB2 fB2
 replace B1:=Lib.hid (B1.out.later hb)
 replace B2:=Lib.hid (B2.out.later hb)
 replace HA:=Lib.hid (HA.out.later hb)
 replace HW:=Lib.hid (HW.out.trans (hb.mono HW.out.size))
 clear hb
 obtain ⟨lB1,cB1,fB1⟩:=B1.out
 obtain ⟨lB2,cB2,fB2⟩:=B2.out
 cases hq:(k == 4)
 ·obtain h | h:=HOR.out
  ·rw [h] at hq;simp at hq
  ·have hkk:k2=k:=by
    rw [h] at hf2
    exact (fault_one hf2 HK.out).2
   subst hkk
   have hee:(k2 == k2)=true:=by simp
   clear hf2 hk4 HOR h
   go_wp2
   go_ret
   exact ⟨rfl,HW.out⟩
 ·clear hf2 hk4 HOR
  go_wp2
  go_ret
  exact ⟨rfl,HW.out⟩
end Go.Proofs.Ytblgdccoeecodaa
