/- What the claim needs,part 50. -/
import Derived.Test.YtblgdccoeecodaaQ349
namespace Go.Proofs.Ytblgdccoeecodaa
set_option linter.unusedSimpArgs false
set_option linter.unusedVariables false
open Go.RowKit
def PruneR (f:FuncD) (w:World) (e:Ending) (w' : World):Prop := ∃ v S,e = .returned (.tuple #[v,.int .i64 (pruneF f).2])/\OFunc w' S v (pruneF f).1/\Fresh w.heap.size S/\Below w.heap.size w w'
theorem pruneF_bad {f:FuncD} (h:checkF f ≠ 0):pruneF f=(zeroF,checkF f):=by unfold pruneF;rw [if_pos h]
theorem pruneF_late {f:FuncD} (h:checkF f=0) (h2:checkF (prunedF f) ≠ 0):pruneF f=(zeroF,checkF (prunedF f)):=by unfold pruneF;rw [if_neg (by simp [h]),if_pos h2]
theorem pruneF_ok {f:FuncD} (h:checkF f=0) (h2:checkF (prunedF f)=0):pruneF f=(prunedF f,0):=by unfold pruneF;rw [if_neg (by simp [h]),if_neg (by simp [h2])]
set_option maxHeartbeats 6400000 in
theorem graphPrune {w:World} {v:Value} {f:FuncD} (hv:FuncV w v f):Calls Try.prog 13 #[v] w (PruneR f w):=by
 have HV:=Lib.hid hv
 obtain ⟨ap,cp,ab,cb,rfl, -, -, -, -⟩:=hv.form
 clear hv
 go_enter Try.func13,Try.ntmps13
 go_upto_region 1 with (fail)
 have B1:Hid (Box ((w.alloc (.cells #[.slice ap f.params.length cp,.int .i64 f.arrays,.int .i64 f.cells,.slice ab f.blocks.length cb] 25)).alloc (.cells #[.slice none 0 0,.int .i64 0,.int .i64 0,.slice none 0 0] 25)) (w.heap.size) #[.slice ap f.params.length cp,.int .i64 f.arrays,.int .i64 f.cells,.slice ab f.blocks.length cb]):=Lib.hid (by simpa using ((Box.new w #[.slice ap f.params.length cp,.int .i64 f.arrays,.int .i64 f.cells,.slice ab f.blocks.length cb] 25).alloc _))
 have B2:Hid (Box ((w.alloc (.cells #[.slice ap f.params.length cp,.int .i64 f.arrays,.int .i64 f.cells,.slice ab f.blocks.length cb] 25)).alloc (.cells #[.slice none 0 0,.int .i64 0,.int .i64 0,.slice none 0 0] 25)) (w.heap.size+1) #[.slice none 0 0,.int .i64 0,.int .i64 0,.slice none 0 0]):=Lib.hid (by simpa using (Box.new (w.alloc (.cells #[.slice ap f.params.length cp,.int .i64 f.arrays,.int .i64 f.cells,.slice ab f.blocks.length cb] 25)) #[.slice none 0 0,.int .i64 0,.int .i64 0,.slice none 0 0] 25))
 have HW:Hid (Below w.heap.size w ((w.alloc (.cells #[.slice ap f.params.length cp,.int .i64 f.arrays,.int .i64 f.cells,.slice ab f.blocks.length cb] 25)).alloc (.cells #[.slice none 0 0,.int .i64 0,.int .i64 0,.slice none 0 0] 25))):=Lib.hid (((Below.refl _ _).alloc (Nat.le_refl _) _).alloc (by simp) _)
 generalize ((w.alloc (.cells #[.slice ap f.params.length cp,.int .i64 f.arrays,.int .i64 f.cells,.slice ab f.blocks.length cb] 25)).alloc (.cells #[.slice none 0 0,.int .i64 0,.int .i64 0,.slice none 0 0] 25))=wv at *
 obtain ⟨lB1,cB1,fB1⟩:=B1.out
 obtain ⟨lB2,cB2,fB2⟩:=B2.out
 go_wp2_with fail
 refine (graphOpen (HV.out.below HW.out)).mono ?_
 rintro e w2 ⟨hb,⟨hc0,rfl⟩ | ⟨hc0,bg,O,rfl,hO,hM⟩⟩
 ·have HWHY:Hid (pruneF f=(zeroF,checkF f)):=Lib.hid (pruneF_bad hc0)
  have hc1:(checkF f != 0)=true:=by simpa using hc0
  clear hc0
  clear lB1 cB1 fB1 lB2 cB2 fB2
  replace B1:=Lib.hid (B1.out.later hb)
  replace B2:=Lib.hid (B2.out.later hb)
  replace HW:=Lib.hid (HW.out.trans (hb.mono HW.out.size))
  clear hb
  obtain ⟨lB1,cB1,fB1⟩:=B1.out
  obtain ⟨lB2,cB2,fB2⟩:=B2.out
  go_wp2
  have B1_:Box ((((w2.setCell ⟨w.heap.size+1,0,none⟩ (.slice none 0 0)).setCell ⟨w.heap.size+1,1,none⟩ (.int .i64 0)).setCell ⟨w.heap.size+1,2,none⟩ (.int .i64 0)).setCell ⟨w.heap.size+1,3,none⟩ (.slice none 0 0)) (w.heap.size) #[.slice ap f.params.length cp,.int .i64 f.arrays,.int .i64 f.cells,.slice ab f.blocks.length cb]:=by simpa using ((((B1.out.other (p:=⟨w.heap.size+1,0,none⟩) (.slice none 0 0) (by first | assumption | (simp;done) | omega | (dsimp only;omega))).other (p:=⟨w.heap.size+1,1,none⟩) (.int .i64 0) (by first | assumption | (simp;done) | omega | (dsimp only;omega))).other (p:=⟨w.heap.size+1,2,none⟩) (.int .i64 0) (by first | assumption | (simp;done) | omega | (dsimp only;omega))).other (p:=⟨w.heap.size+1,3,none⟩) (.slice none 0 0) (by first | assumption | (simp;done) | omega | (dsimp only;omega)))
  have B2_:Box ((((w2.setCell ⟨w.heap.size+1,0,none⟩ (.slice none 0 0)).setCell ⟨w.heap.size+1,1,none⟩ (.int .i64 0)).setCell ⟨w.heap.size+1,2,none⟩ (.int .i64 0)).setCell ⟨w.heap.size+1,3,none⟩ (.slice none 0 0)) (w.heap.size+1) #[(.slice none 0 0),(.int .i64 0),(.int .i64 0),(.slice none 0 0)]:=by simpa using ((((B2.out.set 0 (.slice none 0 0)).set 1 (.int .i64 0)).set 2 (.int .i64 0)).set 3 (.slice none 0 0))
  have HW_:Below w.heap.size w ((((w2.setCell ⟨w.heap.size+1,0,none⟩ (.slice none 0 0)).setCell ⟨w.heap.size+1,1,none⟩ (.int .i64 0)).setCell ⟨w.heap.size+1,2,none⟩ (.int .i64 0)).setCell ⟨w.heap.size+1,3,none⟩ (.slice none 0 0)):=((((HW.out.setCell (p:=⟨w.heap.size+1,0,none⟩) (by first | assumption | omega | (dsimp only;omega) | (have:=HW.out.size;omega) | (simp;done) | (simp;omega)) (.slice none 0 0)).setCell (p:=⟨w.heap.size+1,1,none⟩) (by first | assumption | omega | (dsimp only;omega) | (have:=HW.out.size;omega) | (simp;done) | (simp;omega)) (.int .i64 0)).setCell (p:=⟨w.heap.size+1,2,none⟩) (by first | assumption | omega | (dsimp only;omega) | (have:=HW.out.size;omega) | (simp;done) | (simp;omega)) (.int .i64 0)).setCell (p:=⟨w.heap.size+1,3,none⟩) (by first | assumption | omega | (dsimp only;omega) | (have:=HW.out.size;omega) | (simp;done) | (simp;omega)) (.slice none 0 0))
  clear lB1 cB1 fB1 lB2 cB2 fB2
  clear B1 B2 HW
  generalize ((((w2.setCell ⟨w.heap.size+1,0,none⟩ (.slice none 0 0)).setCell ⟨w.heap.size+1,1,none⟩ (.int .i64 0)).setCell ⟨w.heap.size+1,2,none⟩ (.int .i64 0)).setCell ⟨w.heap.size+1,3,none⟩ (.slice none 0 0))=wz at *
  have B1:=Lib.hid B1_
  clear B1_
  have B2:=Lib.hid B2_
  clear B2_
  have HW:=Lib.hid HW_
  clear HW_
  obtain ⟨lB1,cB1,fB1⟩:=B1.out
  obtain ⟨lB2,cB2,fB2⟩:=B2.out
  refine bodyPost_ret (v:=.tuple #[.agg #[.slice none 0 0,.int .i64 0,.int .i64 0,.slice none 0 0],.int .i64 (checkF f)]) (by simp [results,Try.results13,go_sem, *]) rfl ⟨_,Foot.none,by rw [HWHY.out],by rw [HWHY.out];exact OFunc.zero,fun _ h=>h.elim,HW.out⟩
 ·have HC0:=Lib.hid hc0
  have HO:=Lib.hid hO
  have HM:=Lib.hid hM
  have HV2:=Lib.hid ((HV.out.below HW.out).below hb)
  clear hc0 hO hM
  clear lB1 cB1 fB1 lB2 cB2 fB2
  replace B1:=Lib.hid (B1.out.later hb)
  replace B2:=Lib.hid (B2.out.later hb)
  replace HW:=Lib.hid (HW.out.trans (hb.mono HW.out.size))
  clear hb
  obtain ⟨lB1,cB1,fB1⟩:=B1.out
  obtain ⟨lB2,cB2,fB2⟩:=B2.out
  go_wp2_with fail
  refine (graphPruned HV2.out HM.out HO.out HC0.out).mono ?_
  rintro e w3 ⟨vp,S,rfl,hOF,hFr,hb⟩
  obtain ⟨g,hg⟩ : ∃ g,g=prunedF f:=⟨_,rfl⟩
  rw [<-hg] at hOF
  have HG:=Lib.hid hg
  obtain ⟨ap2,cp2,ab2,cb2,rfl, -, -, -, -⟩:=hOF.reads.form
  have hw2:w.heap.size+2 <= w2.heap.size:=by omega
  have HOF:Hid (Holds [w.heap.size+1] (w.heap.size+2) w3 S (fun W=>OFunc W S (.agg #[.slice ap2 g.params.length cp2,.int .i64 g.arrays,.int .i64 g.cells,.slice ab2 g.blocks.length cb2]) g)):=Lib.hid (((holds_func hOF hFr).from hw2).low (by simp))
  clear hOF hFr hg hw2
  clear lB1 cB1 fB1 lB2 cB2 fB2
  replace B1:=Lib.hid (B1.out.later hb)
  replace B2:=Lib.hid (B2.out.later hb)
  replace HW:=Lib.hid (HW.out.trans (hb.mono HW.out.size))
  clear hb
  obtain ⟨lB1,cB1,fB1⟩:=B1.out
  obtain ⟨lB2,cB2,fB2⟩:=B2.out

  go_upto_region 5 with (fail)
  have nB3B1:w3.heap.size ≠ w.heap.size:=fun e=>by have:=lB1;omega
  have nB1B3:w.heap.size ≠ w3.heap.size:=fun e=>nB3B1 e.symm
  have nB3B2:w3.heap.size ≠ w.heap.size+1:=fun e=>by have:=lB2;omega
  have nB2B3:w.heap.size+1 ≠ w3.heap.size:=fun e=>nB3B2 e.symm
  have B1_:Box (w3.alloc (.cells #[.slice ap2 g.params.length cp2,.int .i64 g.arrays,.int .i64 g.cells,.slice ab2 g.blocks.length cb2] 25)) (w.heap.size) #[.slice ap f.params.length cp,.int .i64 f.arrays,.int .i64 f.cells,.slice ab f.blocks.length cb]:=by simpa using (B1.out.alloc _)
  have B2_:Box (w3.alloc (.cells #[.slice ap2 g.params.length cp2,.int .i64 g.arrays,.int .i64 g.cells,.slice ab2 g.blocks.length cb2] 25)) (w.heap.size+1) #[.slice none 0 0,.int .i64 0,.int .i64 0,.slice none 0 0]:=by simpa using (B2.out.alloc _)
  have B3_:Box (w3.alloc (.cells #[.slice ap2 g.params.length cp2,.int .i64 g.arrays,.int .i64 g.cells,.slice ab2 g.blocks.length cb2] 25)) (w3.heap.size) #[.slice ap2 g.params.length cp2,.int .i64 g.arrays,.int .i64 g.cells,.slice ab2 g.blocks.length cb2]:=by simpa using (Box.new w3 #[.slice ap2 g.params.length cp2,.int .i64 g.arrays,.int .i64 g.cells,.slice ab2 g.blocks.length cb2] 25)
  have HOF_:=(HOF.out.alloc (.cells #[.slice ap2 g.params.length cp2,.int .i64 g.arrays,.int .i64 g.cells,.slice ab2 g.blocks.length cb2] 25))
  have HW_:Below w.heap.size w (w3.alloc (.cells #[.slice ap2 g.params.length cp2,.int .i64 g.arrays,.int .i64 g.cells,.slice ab2 g.blocks.length cb2] 25)):=(HW.out.alloc (by first | exact Nat.le_refl _ | exact HW.out.size | (simp only [World.size_alloc,World.size_setCell];have:=HW.out.size;omega)) _)
  clear lB1 cB1 fB1 lB2 cB2 fB2
  clear B1 B2 HOF HW
  generalize (w3.alloc (.cells #[.slice ap2 g.params.length cp2,.int .i64 g.arrays,.int .i64 g.cells,.slice ab2 g.blocks.length cb2] 25))=w4 at *
  have B1:=Lib.hid B1_
  clear B1_
  have B2:=Lib.hid B2_
  clear B2_
  have B3:=Lib.hid B3_
  clear B3_
  have HOF:=Lib.hid HOF_
  clear HOF_
  have HW:=Lib.hid HW_
  clear HW_
  obtain ⟨lB1,cB1,fB1⟩:=B1.out
  obtain ⟨lB2,cB2,fB2⟩:=B2.out
  obtain ⟨lB3,cB3,fB3⟩:=B3.out
  go_wp2_with fail
  refine (irCheck HOF.out.now.reads).mono ?_
  rintro e w5 ⟨rfl,hb⟩
  clear lB1 cB1 fB1 lB2 cB2 fB2 lB3 cB3 fB3
  replace B1:=Lib.hid (B1.out.later hb)
  replace B2:=Lib.hid (B2.out.later hb)
  replace B3:=Lib.hid (B3.out.later hb)
  replace HOF:=Lib.hid (HOF.out.later hb)
  replace HW:=Lib.hid (HW.out.trans (hb.mono HW.out.size))
  clear hb
  obtain ⟨lB1,cB1,fB1⟩:=B1.out
  obtain ⟨lB2,cB2,fB2⟩:=B2.out
  obtain ⟨lB3,cB3,fB3⟩:=B3.out
  obtain ⟨cg,hcg⟩ : ∃ cg,cg=checkF g:=⟨_,rfl⟩
  rw [<-hcg]
  have HCG:=Lib.hid hcg
  clear hcg
  cases h9:(cg != 0)
  rotate_left
  ·have HWHY:Hid (pruneF f=(zeroF,cg)):=Lib.hid (by rw [HCG.out,HG.out];exact pruneF_late HC0.out (by rw [<-HG.out, <-HCG.out];simpa using h9))
   go_wp2
   have B1_:Box ((((w5.setCell ⟨w.heap.size+1,0,none⟩ (.slice none 0 0)).setCell ⟨w.heap.size+1,1,none⟩ (.int .i64 0)).setCell ⟨w.heap.size+1,2,none⟩ (.int .i64 0)).setCell ⟨w.heap.size+1,3,none⟩ (.slice none 0 0)) (w.heap.size) #[.slice ap f.params.length cp,.int .i64 f.arrays,.int .i64 f.cells,.slice ab f.blocks.length cb]:=by simpa using ((((B1.out.other (p:=⟨w.heap.size+1,0,none⟩) (.slice none 0 0) (by first | assumption | (simp;done) | omega | (dsimp only;omega))).other (p:=⟨w.heap.size+1,1,none⟩) (.int .i64 0) (by first | assumption | (simp;done) | omega | (dsimp only;omega))).other (p:=⟨w.heap.size+1,2,none⟩) (.int .i64 0) (by first | assumption | (simp;done) | omega | (dsimp only;omega))).other (p:=⟨w.heap.size+1,3,none⟩) (.slice none 0 0) (by first | assumption | (simp;done) | omega | (dsimp only;omega)))
   have B2_:Box ((((w5.setCell ⟨w.heap.size+1,0,none⟩ (.slice none 0 0)).setCell ⟨w.heap.size+1,1,none⟩ (.int .i64 0)).setCell ⟨w.heap.size+1,2,none⟩ (.int .i64 0)).setCell ⟨w.heap.size+1,3,none⟩ (.slice none 0 0)) (w.heap.size+1) #[(.slice none 0 0),(.int .i64 0),(.int .i64 0),(.slice none 0 0)]:=by simpa using ((((B2.out.set 0 (.slice none 0 0)).set 1 (.int .i64 0)).set 2 (.int .i64 0)).set 3 (.slice none 0 0))
   have B3_:Box ((((w5.setCell ⟨w.heap.size+1,0,none⟩ (.slice none 0 0)).setCell ⟨w.heap.size+1,1,none⟩ (.int .i64 0)).setCell ⟨w.heap.size+1,2,none⟩ (.int .i64 0)).setCell ⟨w.heap.size+1,3,none⟩ (.slice none 0 0)) (w3.heap.size) #[.slice ap2 g.params.length cp2,.int .i64 g.arrays,.int .i64 g.cells,.slice ab2 g.blocks.length cb2]:=by simpa using ((((B3.out.other (p:=⟨w.heap.size+1,0,none⟩) (.slice none 0 0) (by first | assumption | (simp;done) | omega | (dsimp only;omega))).other (p:=⟨w.heap.size+1,1,none⟩) (.int .i64 0) (by first | assumption | (simp;done) | omega | (dsimp only;omega))).other (p:=⟨w.heap.size+1,2,none⟩) (.int .i64 0) (by first | assumption | (simp;done) | omega | (dsimp only;omega))).other (p:=⟨w.heap.size+1,3,none⟩) (.slice none 0 0) (by first | assumption | (simp;done) | omega | (dsimp only;omega)))
   have HOF_:=((((HOF.out.other (p:=⟨w.heap.size+1,0,none⟩) (.slice none 0 0) (by simp)).other (p:=⟨w.heap.size+1,1,none⟩) (.int .i64 0) (by simp)).other (p:=⟨w.heap.size+1,2,none⟩) (.int .i64 0) (by simp)).other (p:=⟨w.heap.size+1,3,none⟩) (.slice none 0 0) (by simp))
   have HW_:Below w.heap.size w ((((w5.setCell ⟨w.heap.size+1,0,none⟩ (.slice none 0 0)).setCell ⟨w.heap.size+1,1,none⟩ (.int .i64 0)).setCell ⟨w.heap.size+1,2,none⟩ (.int .i64 0)).setCell ⟨w.heap.size+1,3,none⟩ (.slice none 0 0)):=((((HW.out.setCell (p:=⟨w.heap.size+1,0,none⟩) (by first | assumption | omega | (dsimp only;omega) | (have:=HW.out.size;omega) | (simp;done) | (simp;omega)) (.slice none 0 0)).setCell (p:=⟨w.heap.size+1,1,none⟩) (by first | assumption | omega | (dsimp only;omega) | (have:=HW.out.size;omega) | (simp;done) | (simp;omega)) (.int .i64 0)).setCell (p:=⟨w.heap.size+1,2,none⟩) (by first | assumption | omega | (dsimp only;omega) | (have:=HW.out.size;omega) | (simp;done) | (simp;omega)) (.int .i64 0)).setCell (p:=⟨w.heap.size+1,3,none⟩) (by first | assumption | omega | (dsimp only;omega) | (have:=HW.out.size;omega) | (simp;done) | (simp;omega)) (.slice none 0 0))
   clear lB1 cB1 fB1 lB2 cB2 fB2 lB3 cB3 fB3
   clear B1 B2 B3 HOF HW
   generalize ((((w5.setCell ⟨w.heap.size+1,0,none⟩ (.slice none 0 0)).setCell ⟨w.heap.size+1,1,none⟩ (.int .i64 0)).setCell ⟨w.heap.size+1,2,none⟩ (.int .i64 0)).setCell ⟨w.heap.size+1,3,none⟩ (.slice none 0 0))=wz at *
   have B1:=Lib.hid B1_
   clear B1_
   have B2:=Lib.hid B2_
   clear B2_
   have B3:=Lib.hid B3_
   clear B3_
   have HOF:=Lib.hid HOF_
   clear HOF_
   have HW:=Lib.hid HW_
   clear HW_
   obtain ⟨lB1,cB1,fB1⟩:=B1.out
   obtain ⟨lB2,cB2,fB2⟩:=B2.out
   obtain ⟨lB3,cB3,fB3⟩:=B3.out
   refine bodyPost_ret (v:=.tuple #[.agg #[.slice none 0 0,.int .i64 0,.int .i64 0,.slice none 0 0],.int .i64 cg]) (by simp [results,Try.results13,go_sem, *]) rfl ⟨_,Foot.none,by rw [HWHY.out],by rw [HWHY.out];exact OFunc.zero,fun _ h=>h.elim,HW.out⟩
  have HOK:Hid (pruneF f=(g,0)):=Lib.hid (by rw [HG.out];exact pruneF_ok HC0.out (by rw [<-HG.out, <-HCG.out];simpa using h9))
  go_wp2
  have B1_:Box ((((w5.setCell ⟨w.heap.size+1,0,none⟩ (.slice ap2 g.params.length cp2)).setCell ⟨w.heap.size+1,1,none⟩ (.int .i64 g.arrays)).setCell ⟨w.heap.size+1,2,none⟩ (.int .i64 g.cells)).setCell ⟨w.heap.size+1,3,none⟩ (.slice ab2 g.blocks.length cb2)) (w.heap.size) #[.slice ap f.params.length cp,.int .i64 f.arrays,.int .i64 f.cells,.slice ab f.blocks.length cb]:=by simpa using ((((B1.out.other (p:=⟨w.heap.size+1,0,none⟩) (.slice ap2 g.params.length cp2) (by first | assumption | (simp;done) | omega | (dsimp only;omega))).other (p:=⟨w.heap.size+1,1,none⟩) (.int .i64 g.arrays) (by first | assumption | (simp;done) | omega | (dsimp only;omega))).other (p:=⟨w.heap.size+1,2,none⟩) (.int .i64 g.cells) (by first | assumption | (simp;done) | omega | (dsimp only;omega))).other (p:=⟨w.heap.size+1,3,none⟩) (.slice ab2 g.blocks.length cb2) (by first | assumption | (simp;done) | omega | (dsimp only;omega)))
  have B2_:Box ((((w5.setCell ⟨w.heap.size+1,0,none⟩ (.slice ap2 g.params.length cp2)).setCell ⟨w.heap.size+1,1,none⟩ (.int .i64 g.arrays)).setCell ⟨w.heap.size+1,2,none⟩ (.int .i64 g.cells)).setCell ⟨w.heap.size+1,3,none⟩ (.slice ab2 g.blocks.length cb2)) (w.heap.size+1) #[(.slice ap2 g.params.length cp2),(.int .i64 g.arrays),(.int .i64 g.cells),(.slice ab2 g.blocks.length cb2)]:=by simpa using ((((B2.out.set 0 (.slice ap2 g.params.length cp2)).set 1 (.int .i64 g.arrays)).set 2 (.int .i64 g.cells)).set 3 (.slice ab2 g.blocks.length cb2))
  have B3_:Box ((((w5.setCell ⟨w.heap.size+1,0,none⟩ (.slice ap2 g.params.length cp2)).setCell ⟨w.heap.size+1,1,none⟩ (.int .i64 g.arrays)).setCell ⟨w.heap.size+1,2,none⟩ (.int .i64 g.cells)).setCell ⟨w.heap.size+1,3,none⟩ (.slice ab2 g.blocks.length cb2)) (w3.heap.size) #[.slice ap2 g.params.length cp2,.int .i64 g.arrays,.int .i64 g.cells,.slice ab2 g.blocks.length cb2]:=by simpa using ((((B3.out.other (p:=⟨w.heap.size+1,0,none⟩) (.slice ap2 g.params.length cp2) (by first | assumption | (simp;done) | omega | (dsimp only;omega))).other (p:=⟨w.heap.size+1,1,none⟩) (.int .i64 g.arrays) (by first | assumption | (simp;done) | omega | (dsimp only;omega))).other (p:=⟨w.heap.size+1,2,none⟩) (.int .i64 g.cells) (by first | assumption | (simp;done) | omega | (dsimp only;omega))).other (p:=⟨w.heap.size+1,3,none⟩) (.slice ab2 g.blocks.length cb2) (by first | assumption | (simp;done) | omega | (dsimp only;omega)))
  have HOF_:=((((HOF.out.other (p:=⟨w.heap.size+1,0,none⟩) (.slice ap2 g.params.length cp2) (by simp)).other (p:=⟨w.heap.size+1,1,none⟩) (.int .i64 g.arrays) (by simp)).other (p:=⟨w.heap.size+1,2,none⟩) (.int .i64 g.cells) (by simp)).other (p:=⟨w.heap.size+1,3,none⟩) (.slice ab2 g.blocks.length cb2) (by simp))
  have HW_:Below w.heap.size w ((((w5.setCell ⟨w.heap.size+1,0,none⟩ (.slice ap2 g.params.length cp2)).setCell ⟨w.heap.size+1,1,none⟩ (.int .i64 g.arrays)).setCell ⟨w.heap.size+1,2,none⟩ (.int .i64 g.cells)).setCell ⟨w.heap.size+1,3,none⟩ (.slice ab2 g.blocks.length cb2)):=((((HW.out.setCell (p:=⟨w.heap.size+1,0,none⟩) (by first | assumption | omega | (dsimp only;omega) | (have:=HW.out.size;omega) | (simp;done) | (simp;omega)) (.slice ap2 g.params.length cp2)).setCell (p:=⟨w.heap.size+1,1,none⟩) (by first | assumption | omega | (dsimp only;omega) | (have:=HW.out.size;omega) | (simp;done) | (simp;omega)) (.int .i64 g.arrays)).setCell (p:=⟨w.heap.size+1,2,none⟩) (by first | assumption | omega | (dsimp only;omega) | (have:=HW.out.size;omega) | (simp;done) | (simp;omega)) (.int .i64 g.cells)).setCell (p:=⟨w.heap.size+1,3,none⟩) (by first | assumption | omega | (dsimp only;omega) | (have:=HW.out.size;omega) | (simp;done) | (simp;omega)) (.slice ab2 g.blocks.length cb2))
  clear lB1 cB1 fB1 lB2 cB2 fB2 lB3 cB3 fB3
  clear B1 B2 B3 HOF HW
  generalize ((((w5.setCell ⟨w.heap.size+1,0,none⟩ (.slice ap2 g.params.length cp2)).setCell ⟨w.heap.size+1,1,none⟩ (.int .i64 g.arrays)).setCell ⟨w.heap.size+1,2,none⟩ (.int .i64 g.cells)).setCell ⟨w.heap.size+1,3,none⟩ (.slice ab2 g.blocks.length cb2))=w6 at *
  have B1:=Lib.hid B1_
  clear B1_
  have B2:=Lib.hid B2_
  clear B2_
  have B3:=Lib.hid B3_
  clear B3_
  have HOF:=Lib.hid HOF_
  clear HOF_
  have HW:=Lib.hid HW_
  clear HW_
  obtain ⟨lB1,cB1,fB1⟩:=B1.out
  obtain ⟨lB2,cB2,fB2⟩:=B2.out
  obtain ⟨lB3,cB3,fB3⟩:=B3.out
  refine bodyPost_ret (v:=.tuple #[.agg #[.slice ap2 g.params.length cp2,.int .i64 g.arrays,.int .i64 g.cells,.slice ab2 g.blocks.length cb2],.int .i64 0]) (by simp [results,Try.results13,go_sem, *]) rfl ⟨_,S,by rw [HOK.out],by rw [HOK.out];exact HOF.out.now,fun k hk => ?_,HW.out⟩
  have:=HOF.out.base k hk;omega
end Go.Proofs.Ytblgdccoeecodaa
