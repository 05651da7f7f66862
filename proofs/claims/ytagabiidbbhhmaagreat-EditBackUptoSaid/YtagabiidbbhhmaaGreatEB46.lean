/- Part 46. -/
import Derived.Test.YtagabiidbbhhmaaGreatEB45
namespace Go.Proofs.YtagabiidbbhhmaaGreat
set_option linter.all false
open Go.RowKit
private theorem fQ.alloc {w0 W:World} (h:fQ w0 W) (o:Obj):fQ w0 (W.alloc o):=h.later ((Below.refl _ _).alloc (aA _) o)
theorem uS:Enters Tryz.prog 50:=enters_of Tryz.func50 (by kernel_rfl) rfl
theorem aEU {w:World} {p q:Nat} {a b v:Int} (hp:Box w p #[.int .i64 a]) (hq:Box w q #[.int .i64 b]) :
  Calls Tryz.prog 50 #[.int .i64 v,.pointer (some ⟨p,0,none⟩),.pointer (some ⟨q,0,none⟩)] w fun e w'=>e = .returned (.int .i64 (lR a b v))/\Below w.heap.size w w':=by
 obtain ⟨l1,c1,f1⟩:=hp
 obtain ⟨l2,c2,f2⟩:=hq
 have HE:Hid (lR a b v=if v == a then b else v):=h! (by unfold lR;simp)
 cases h:(v == a)
 ·rw [h] at HE
  go_enter Tryz.func50,Tryz.ntmps50
  go_wp2
  go_ret
  exact ⟨by rw [HE.out];rfl,Below.refl _ _⟩
 ·rw [h] at HE
  go_enter Tryz.func50,Tryz.ntmps50
  go_wp2
  go_ret
  exact ⟨by rw [HE.out];rfl,Below.refl _ _⟩
def aF0 (f:FuncD) (a b:Int) (w:World) (e:Ending) (w' : World):Prop := ∃ (g:FuncD) (k:Int) (v:Value) (S:Foot),oC f a b g k/\e = .returned (.tuple #[v,.int .i64 k])/\OFunc w' S v g/\mK w.heap.size S/\Below w.heap.size w w'
set_option maxHeartbeats 6400000 in
set_option maxRecDepth 100000 in
theorem sI {w:World} {v:Value} {f:FuncD} {a b:Int} (hv:fJ w v f) (ha64:In64 a) (hb64:In64 b):Calls Tryz.prog 17 #[v,.int .i64 a,.int .i64 b] w (aF0 f a b w):=by
 have HV:=h! hv
 obtain ⟨ap,cp,ab,cb,rfl,hp,ha,hc,hB⟩:=hv.form
 obtain ⟨np,hnp⟩ : ∃ np,np=f.params.length:=⟨_,rfl⟩
 obtain ⟨ar,har⟩ : ∃ ar,ar=f.arrays:=⟨_,rfl⟩
 obtain ⟨ce,hce⟩ : ∃ ce,ce=f.cells:=⟨_,rfl⟩
 obtain ⟨nb,hnb⟩ : ∃ nb,nb=f.blocks.length:=⟨_,rfl⟩
 rw [<-hnb, <-hnp, <-har, <-hce] at HV
 rw [<-hnb, <-hnp, <-har, <-hce]
 have HNB:=h! hnb
 have HNP:=h! hnp
 have HAC:Hid (ar=f.arrays/\ce=f.cells):=h! ⟨har,hce⟩
 have H64:=h! (And.intro ha64 hb64)
 clear hp ha hc hB hv hnp hnb har hce ha64 hb64
 go_enter Tryz.func17,Tryz.ntmps17
 go_upto_region 1 with (fail)
 have hA_:=(Below.refl w.heap.size w).alloc (aA _) (.cells #[.slice ap np cp,.int .i64 ar,.int .i64 ce,.slice ab nb cb] 25)
 have HW:=h! hA_
 clear hA_
 have B1:=h! (Box.new w #[.slice ap np cp,.int .i64 ar,.int .i64 ce,.slice ab nb cb] 25)
 have hz0_:(w.alloc (.cells #[.slice ap np cp,.int .i64 ar,.int .i64 ce,.slice ab nb cb] 25)).heap.size=w.heap.size+1:=World.size_alloc _ _
 generalize w.alloc (.cells #[.slice ap np cp,.int .i64 ar,.int .i64 ce,.slice ab nb cb] 25)=wv0 at *
 have hA_:=(Below.refl wv0.heap.size wv0).alloc (aA _) (.cells #[.int .i64 a] 3)
 replace B1:=h! (B1.out.later hA_)
 replace HW:=h! (HW.out.trans (hA_.mono HW.out.size))
 clear hA_
 have B2:=h! (Box.new wv0 #[.int .i64 a] 3)
 rw [hz0_] at B2
 have hz1_:(wv0.alloc (.cells #[.int .i64 a] 3)).heap.size=w.heap.size+1+1:=by rw [World.size_alloc,hz0_]
 clear hz0_
 generalize wv0.alloc (.cells #[.int .i64 a] 3)=wv1 at *
 have hA_:=(Below.refl wv1.heap.size wv1).alloc (aA _) (.cells #[.int .i64 b] 3)
 replace B1:=h! (B1.out.later hA_)
 replace B2:=h! (B2.out.later hA_)
 replace HW:=h! (HW.out.trans (hA_.mono HW.out.size))
 clear hA_
 have B3:=h! (Box.new wv1 #[.int .i64 b] 3)
 rw [hz1_] at B3
 have hz2_:(wv1.alloc (.cells #[.int .i64 b] 3)).heap.size=w.heap.size+1+1+1:=by rw [World.size_alloc,hz1_]
 clear hz1_
 generalize wv1.alloc (.cells #[.int .i64 b] 3)=wv2 at *
 have hA_:=(Below.refl wv2.heap.size wv2).alloc (aA _) (.cells #[.slice none 0 0,.int .i64 0,.int .i64 0,.slice none 0 0] 25)
 replace B1:=h! (B1.out.later hA_)
 replace B2:=h! (B2.out.later hA_)
 replace B3:=h! (B3.out.later hA_)
 replace HW:=h! (HW.out.trans (hA_.mono HW.out.size))
 clear hA_
 have B4:=h! (Box.new wv2 #[.slice none 0 0,.int .i64 0,.int .i64 0,.slice none 0 0] 25)
 rw [hz2_] at B4
 clear hz2_
 generalize wv2.alloc (.cells #[.slice none 0 0,.int .i64 0,.int .i64 0,.slice none 0 0] 25)=wv at *
 obtain ⟨lB1,cB1,fB1⟩:=B1.out
 obtain ⟨lB2,cB2,fB2⟩:=B2.out
 obtain ⟨lB3,cB3,fB3⟩:=B3.out
 obtain ⟨lB4,cB4,fB4⟩:=B4.out
 go_wp2_with fail
 refine (aE1 (HV.out.below HW.out)).mono ?_
 rintro e w1 ⟨hb,⟨hc0,rfl⟩ | ⟨hc0,bb,kk,hF,hk0,rfl⟩ | ⟨hc0,hF,bs,bt,bg,lg,lcap,bm,tm,g,pv,ov,lv,O,I,rfl,hve,hO,hD,hM,hT⟩⟩
 ·skip
  clear lB1 cB1 fB1 lB2 cB2 fB2 lB3 cB3 fB3 lB4 cB4 fB4
  replace B1:=h! (B1.out.later hb)
  replace B2:=h! (B2.out.later hb)
  replace B3:=h! (B3.out.later hb)
  replace B4:=h! (B4.out.later hb)
  replace HW:=h! (HW.out.trans (hb.mono HW.out.size))
  clear hb
  obtain ⟨lB1,cB1,fB1⟩:=B1.out
  obtain ⟨lB2,cB2,fB2⟩:=B2.out
  obtain ⟨lB3,cB3,fB3⟩:=B3.out
  obtain ⟨lB4,cB4,fB4⟩:=B4.out
  have HWHY:Hid (oC f a b kS (eS f)):=h! ⟨eS f,.inl ⟨hc0,rfl⟩,.inl ⟨hc0,rfl,rfl⟩⟩
  have hc1:(eS f != 0)=true:=by simpa using hc0
  clear hc0
  go_wp2
  clear lB1 cB1 fB1 lB2 cB2 fB2 lB3 cB3 fB3 lB4 cB4 fB4
  have hO_:=((((Only.set w1 (w.heap.size+1+1+1) 0 (.slice none 0 0)).put 1 (.int .i64 0)).put 2 (.int .i64 0)).put 3 (.slice none 0 0))
  replace B1:=h! (B1.out.only hO_ (by first | assumption | (simp;done) | omega))
  replace B2:=h! (B2.out.only hO_ (by first | assumption | (simp;done) | omega))
  replace B3:=h! (B3.out.only hO_ (by first | assumption | (simp;done) | omega))
  replace HW:=h! (hO_.2.2 HW.out (by first | assumption | omega | (have:=HW.out.size;omega) | (simp;done) | (simp;omega)))
  replace B4:=h! (Box.to (A':=#[(.slice none 0 0),(.int .i64 0),(.int .i64 0),(.slice none 0 0)]) ((((B4.out.set 0 (.slice none 0 0)).set 1 (.int .i64 0)).set 2 (.int .i64 0)).set 3 (.slice none 0 0)) (by first | rfl | simp))
  clear hO_
  generalize ((((w1.setCell ⟨w.heap.size+1+1+1,0,none⟩ (.slice none 0 0)).setCell ⟨w.heap.size+1+1+1,1,none⟩ (.int .i64 0)).setCell ⟨w.heap.size+1+1+1,2,none⟩ (.int .i64 0)).setCell ⟨w.heap.size+1+1+1,3,none⟩ (.slice none 0 0))=wz at *
  obtain ⟨lB1,cB1,fB1⟩:=B1.out
  obtain ⟨lB2,cB2,fB2⟩:=B2.out
  obtain ⟨lB3,cB3,fB3⟩:=B3.out
  obtain ⟨lB4,cB4,fB4⟩:=B4.out
  refine bodyPost_ret (v:=.tuple #[.agg #[.slice none 0 0,.int .i64 0,.int .i64 0,.slice none 0 0],.int .i64 (eS f)]) (by simp [results,Tryz.results17,go_sem, *]) rfl ⟨kS,(eS f),_,Foot.none,HWHY.out,rfl,OFunc.zero,fun _ h=>h.elim,HW.out⟩
 ·skip
  clear lB1 cB1 fB1 lB2 cB2 fB2 lB3 cB3 fB3 lB4 cB4 fB4
  replace B1:=h! (B1.out.later hb)
  replace B2:=h! (B2.out.later hb)
  replace B3:=h! (B3.out.later hb)
  replace B4:=h! (B4.out.later hb)
  replace HW:=h! (HW.out.trans (hb.mono HW.out.size))
  clear hb
  obtain ⟨lB1,cB1,fB1⟩:=B1.out
  obtain ⟨lB2,cB2,fB2⟩:=B2.out
  obtain ⟨lB3,cB3,fB3⟩:=B3.out
  obtain ⟨lB4,cB4,fB4⟩:=B4.out
  have HWHY:Hid (oC f a b kS kk):=h! ⟨kk,.inr ⟨hc0,bb,hF⟩,.inl ⟨hk0,rfl,rfl⟩⟩
  have hc1:(kk != 0)=true:=by simpa using hk0
  clear hc0 hF hk0
  go_wp2
  clear lB1 cB1 fB1 lB2 cB2 fB2 lB3 cB3 fB3 lB4 cB4 fB4
  have hO_:=((((Only.set w1 (w.heap.size+1+1+1) 0 (.slice none 0 0)).put 1 (.int .i64 0)).put 2 (.int .i64 0)).put 3 (.slice none 0 0))
  replace B1:=h! (B1.out.only hO_ (by first | assumption | (simp;done) | omega))
  replace B2:=h! (B2.out.only hO_ (by first | assumption | (simp;done) | omega))
  replace B3:=h! (B3.out.only hO_ (by first | assumption | (simp;done) | omega))
  replace HW:=h! (hO_.2.2 HW.out (by first | assumption | omega | (have:=HW.out.size;omega) | (simp;done) | (simp;omega)))
  replace B4:=h! (Box.to (A':=#[(.slice none 0 0),(.int .i64 0),(.int .i64 0),(.slice none 0 0)]) ((((B4.out.set 0 (.slice none 0 0)).set 1 (.int .i64 0)).set 2 (.int .i64 0)).set 3 (.slice none 0 0)) (by first | rfl | simp))
  clear hO_
  generalize ((((w1.setCell ⟨w.heap.size+1+1+1,0,none⟩ (.slice none 0 0)).setCell ⟨w.heap.size+1+1+1,1,none⟩ (.int .i64 0)).setCell ⟨w.heap.size+1+1+1,2,none⟩ (.int .i64 0)).setCell ⟨w.heap.size+1+1+1,3,none⟩ (.slice none 0 0))=wz at *
  obtain ⟨lB1,cB1,fB1⟩:=B1.out
  obtain ⟨lB2,cB2,fB2⟩:=B2.out
  obtain ⟨lB3,cB3,fB3⟩:=B3.out
  obtain ⟨lB4,cB4,fB4⟩:=B4.out
  refine bodyPost_ret (v:=.tuple #[.agg #[.slice none 0 0,.int .i64 0,.int .i64 0,.slice none 0 0],.int .i64 kk]) (by simp [results,Tryz.results17,go_sem, *]) rfl ⟨kS,kk,_,Foot.none,HWHY.out,rfl,OFunc.zero,fun _ h=>h.elim,HW.out⟩
 have HS0:Hid (SErr f 0):=h! (.inr ⟨hc0,0,hF⟩)
 have HC0:=h! hc0
 have HSZ:=h! (nY hc0)
 have HTM:Hid (fQ w1 w1):=h! (Below.refl _ _)
 obtain ⟨va,hva⟩ : ∃ va,va=(tyOf (eQ f) a).getD 0:=⟨_,rfl⟩
 obtain ⟨ka,hka⟩ : ∃ ka,ka=(tyOf (eQ f) a).isSome:=⟨_,rfl⟩
 obtain ⟨vb,hvb⟩ : ∃ vb,vb=(tyOf (eQ f) b).getD 0:=⟨_,rfl⟩
 obtain ⟨kb,hkb⟩ : ∃ kb,kb=(tyOf (eQ f) b).isSome:=⟨_,rfl⟩
 have HLA:Hid (∀ wg,Below w1.heap.size w1 wg -> (Instr.lookup 93 (.map (some tm)) (.int .i64 a) true).run Tryz.prog wg = .ok (.tuple #[.int .i64 va,.bool ka]) wg):=h! (fun wg hbg=>by
  rw [(hT.later hbg).lookup Tryz.underlying93 Tryz.underlying3 (gP _) a,jF,hva,hka]
  cases tyOf (eQ f) a <;> rfl)
 have HLB:Hid (∀ wg,Below w1.heap.size w1 wg -> (Instr.lookup 93 (.map (some tm)) (.int .i64 b) true).run Tryz.prog wg = .ok (.tuple #[.int .i64 vb,.bool kb]) wg):=h! (fun wg hbg=>by
  rw [(hT.later hbg).lookup Tryz.underlying93 Tryz.underlying3 (gP _) b,jF,hvb,hkb]
  cases tyOf (eQ f) b <;> rfl)
 have HSM:=h! hM.s
 have HVA:Hid (va=(tyOf (eQ f) a).getD 0/\ka=(tyOf (eQ f) a).isSome):=h! ⟨hva,hka⟩
 have HVB:Hid (vb=(tyOf (eQ f) b).getD 0/\kb=(tyOf (eQ f) b).isSome):=h! ⟨hvb,hkb⟩
 clear hc0 hF hve hO hD hM hT hva hka hvb hkb
 clear lB1 cB1 fB1 lB2 cB2 fB2 lB3 cB3 fB3 lB4 cB4 fB4
 replace B1:=h! (B1.out.later hb)
 replace B2:=h! (B2.out.later hb)
 replace B3:=h! (B3.out.later hb)
 replace B4:=h! (B4.out.later hb)
 replace HW:=h! (HW.out.trans (hb.mono HW.out.size))
 clear hb
 obtain ⟨lB1,cB1,fB1⟩:=B1.out
 obtain ⟨lB2,cB2,fB2⟩:=B2.out
 obtain ⟨lB3,cB3,fB3⟩:=B3.out
 obtain ⟨lB4,cB4,fB4⟩:=B4.out
 go_upto_region 4 with (fail)
 refine wp_region_grow 11 (fun _=>.plain) (by kernel_rfl) (by kernel_rfl) ?_ (fun ν => ?_)
 ·exact fun _=>trivial
 simp only [aQ,aU,aT,aY]
 iterate 11 (refine Grow.val (v := ?_) rfl rfl (fun wg hbg hdg => ?_) ?_;rotate_left;(focus ((obtain ⟨lg0,cg0,fg0⟩:=B1.out.later hbg);(obtain ⟨lg1,cg1,fg1⟩:=B2.out.later hbg);(obtain ⟨lg2,cg2,fg2⟩:=B3.out.later hbg);(obtain ⟨lg3,cg3,fg3⟩:=B4.out.later hbg);(obtain ⟨xl1,xc1,xf1⟩:=HSM.out.later (HTM.out.trans (hbg.mono HTM.out.size));have hlk:=HLA.out wg (HTM.out.trans (hbg.mono HTM.out.size)));clear hbg hdg;first | (go_simp;done) | (go_simp;with_reducible rfl)));simp only [Act.put,aB,aE,aF])
 intro wg hb hf hap
 clear hap
 clear lB1 cB1 fB1 lB2 cB2 fB2 lB3 cB3 fB3 lB4 cB4 fB4
 replace B1:=h! (B1.out.later hb)
 replace B2:=h! (B2.out.later hb)
 replace B3:=h! (B3.out.later hb)
 replace B4:=h! (B4.out.later hb)
 replace HTM:=h! (HTM.out.later hb)
 replace HW:=h! (HW.out.trans (hb.mono HW.out.size))
 clear hb
 obtain ⟨lB1,cB1,fB1⟩:=B1.out
 obtain ⟨lB2,cB2,fB2⟩:=B2.out
 obtain ⟨lB3,cB3,fB3⟩:=B3.out
 obtain ⟨lB4,cB4,fB4⟩:=B4.out
 clear hf
 go_upto_region 5 with (fail)
 refine wp_region_grow 11 (fun _=>.plain) (by kernel_rfl) (by kernel_rfl) ?_ (fun ν => ?_)
 ·exact fun _=>trivial
 simp only [aQ,aU,aT,aY]
 iterate 11 (refine Grow.val (v := ?_) rfl rfl (fun wg hbg hdg => ?_) ?_;rotate_left;(focus ((obtain ⟨lg0,cg0,fg0⟩:=B1.out.later hbg);(obtain ⟨lg1,cg1,fg1⟩:=B2.out.later hbg);(obtain ⟨lg2,cg2,fg2⟩:=B3.out.later hbg);(obtain ⟨lg3,cg3,fg3⟩:=B4.out.later hbg);(obtain ⟨xl1,xc1,xf1⟩:=HSM.out.later (HTM.out.trans (hbg.mono HTM.out.size));have hlk:=HLB.out wg (HTM.out.trans (hbg.mono HTM.out.size)));clear hbg hdg;first | (go_simp;done) | (go_simp;with_reducible rfl)));simp only [Act.put,aB,aE,aF])
 intro wg hb hf hap
 clear hap
 clear lB1 cB1 fB1 lB2 cB2 fB2 lB3 cB3 fB3 lB4 cB4 fB4
 replace B1:=h! (B1.out.later hb)
 replace B2:=h! (B2.out.later hb)
 replace B3:=h! (B3.out.later hb)
 replace B4:=h! (B4.out.later hb)
 replace HTM:=h! (HTM.out.later hb)
 replace HW:=h! (HW.out.trans (hb.mono HW.out.size))
 clear hb
 obtain ⟨lB1,cB1,fB1⟩:=B1.out
 obtain ⟨lB2,cB2,fB2⟩:=B2.out
 obtain ⟨lB3,cB3,fB3⟩:=B3.out
 obtain ⟨lB4,cB4,fB4⟩:=B4.out
 clear hf
 clear HTM
 cases ka
 ·have HWHY:Hid (oC f a b kS 9):=h! ⟨0,HS0.out,.inr ⟨rfl,by unfold vS;rw [if_pos (.inl HVA.out.2.symm)]⟩⟩
  go_wp2
  clear lB1 cB1 fB1 lB2 cB2 fB2 lB3 cB3 fB3 lB4 cB4 fB4
  have hO_:=((((Only.set wg (w.heap.size+1+1+1) 0 (.slice none 0 0)).put 1 (.int .i64 0)).put 2 (.int .i64 0)).put 3 (.slice none 0 0))
  replace B1:=h! (B1.out.only hO_ (by first | assumption | (simp;done) | omega))
  replace B2:=h! (B2.out.only hO_ (by first | assumption | (simp;done) | omega))
  replace B3:=h! (B3.out.only hO_ (by first | assumption | (simp;done) | omega))
  replace HW:=h! (hO_.2.2 HW.out (by first | assumption | omega | (have:=HW.out.size;omega) | (simp;done) | (simp;omega)))
  replace B4:=h! (Box.to (A':=#[(.slice none 0 0),(.int .i64 0),(.int .i64 0),(.slice none 0 0)]) ((((B4.out.set 0 (.slice none 0 0)).set 1 (.int .i64 0)).set 2 (.int .i64 0)).set 3 (.slice none 0 0)) (by first | rfl | simp))
  clear hO_
  generalize ((((wg.setCell ⟨w.heap.size+1+1+1,0,none⟩ (.slice none 0 0)).setCell ⟨w.heap.size+1+1+1,1,none⟩ (.int .i64 0)).setCell ⟨w.heap.size+1+1+1,2,none⟩ (.int .i64 0)).setCell ⟨w.heap.size+1+1+1,3,none⟩ (.slice none 0 0))=wz at *
  obtain ⟨lB1,cB1,fB1⟩:=B1.out
  obtain ⟨lB2,cB2,fB2⟩:=B2.out
  obtain ⟨lB3,cB3,fB3⟩:=B3.out
  obtain ⟨lB4,cB4,fB4⟩:=B4.out
  refine bodyPost_ret (v:=.tuple #[.agg #[.slice none 0 0,.int .i64 0,.int .i64 0,.slice none 0 0],.int .i64 9]) (by simp [results,Tryz.results17,go_sem, *]) rfl ⟨kS,9,_,Foot.none,HWHY.out,rfl,OFunc.zero,fun _ h=>h.elim,HW.out⟩
 cases kb
 ·have HWHY:Hid (oC f a b kS 9):=h! ⟨0,HS0.out,.inr ⟨rfl,by unfold vS;rw [if_pos (.inr HVB.out.2.symm)]⟩⟩
  go_wp2
  clear lB1 cB1 fB1 lB2 cB2 fB2 lB3 cB3 fB3 lB4 cB4 fB4
  have hO_:=((((Only.set wg (w.heap.size+1+1+1) 0 (.slice none 0 0)).put 1 (.int .i64 0)).put 2 (.int .i64 0)).put 3 (.slice none 0 0))
  replace B1:=h! (B1.out.only hO_ (by first | assumption | (simp;done) | omega))
  replace B2:=h! (B2.out.only hO_ (by first | assumption | (simp;done) | omega))
  replace B3:=h! (B3.out.only hO_ (by first | assumption | (simp;done) | omega))
  replace HW:=h! (hO_.2.2 HW.out (by first | assumption | omega | (have:=HW.out.size;omega) | (simp;done) | (simp;omega)))
  replace B4:=h! (Box.to (A':=#[(.slice none 0 0),(.int .i64 0),(.int .i64 0),(.slice none 0 0)]) ((((B4.out.set 0 (.slice none 0 0)).set 1 (.int .i64 0)).set 2 (.int .i64 0)).set 3 (.slice none 0 0)) (by first | rfl | simp))
  clear hO_
  generalize ((((wg.setCell ⟨w.heap.size+1+1+1,0,none⟩ (.slice none 0 0)).setCell ⟨w.heap.size+1+1+1,1,none⟩ (.int .i64 0)).setCell ⟨w.heap.size+1+1+1,2,none⟩ (.int .i64 0)).setCell ⟨w.heap.size+1+1+1,3,none⟩ (.slice none 0 0))=wz at *
  obtain ⟨lB1,cB1,fB1⟩:=B1.out
  obtain ⟨lB2,cB2,fB2⟩:=B2.out
  obtain ⟨lB3,cB3,fB3⟩:=B3.out
  obtain ⟨lB4,cB4,fB4⟩:=B4.out
  refine bodyPost_ret (v:=.tuple #[.agg #[.slice none 0 0,.int .i64 0,.int .i64 0,.slice none 0 0],.int .i64 9]) (by simp [results,Tryz.results17,go_sem, *]) rfl ⟨kS,9,_,Foot.none,HWHY.out,rfl,OFunc.zero,fun _ h=>h.elim,HW.out⟩
 have HSOM:Hid (¬ ((tyOf (eQ f) a).isSome=false \/ (tyOf (eQ f) b).isSome=false)):=h! (by rw [<-HVA.out.2, <-HVB.out.2];simp)
 have HEQ:Hid ((tyOf (eQ f) a=tyOf (eQ f) b) ↔ va=vb):=h! (by
  have h1:=HVA.out
  have h2:=HVB.out
  cases h3:tyOf (eQ f) a <;> cases h4:tyOf (eQ f) b <;> rw [h3] at h1 <;> rw [h4] at h2 <;> simp at h1 h2
  rw [h1,h2];simp)
 cases hne:(va != vb)
 rotate_left
 ·have HWHY:Hid (oC f a b kS 3):=h! ⟨0,HS0.out,.inr ⟨rfl,by unfold vS;rw [if_neg HSOM.out,if_pos (fun h=>by have:=HEQ.out.1 h;rw [this] at hne;simp at hne)]⟩⟩
  go_wp2
  clear lB1 cB1 fB1 lB2 cB2 fB2 lB3 cB3 fB3 lB4 cB4 fB4
  have hO_:=((((Only.set wg (w.heap.size+1+1+1) 0 (.slice none 0 0)).put 1 (.int .i64 0)).put 2 (.int .i64 0)).put 3 (.slice none 0 0))
  replace B1:=h! (B1.out.only hO_ (by first | assumption | (simp;done) | omega))
  replace B2:=h! (B2.out.only hO_ (by first | assumption | (simp;done) | omega))
  replace B3:=h! (B3.out.only hO_ (by first | assumption | (simp;done) | omega))
  replace HW:=h! (hO_.2.2 HW.out (by first | assumption | omega | (have:=HW.out.size;omega) | (simp;done) | (simp;omega)))
  replace B4:=h! (Box.to (A':=#[(.slice none 0 0),(.int .i64 0),(.int .i64 0),(.slice none 0 0)]) ((((B4.out.set 0 (.slice none 0 0)).set 1 (.int .i64 0)).set 2 (.int .i64 0)).set 3 (.slice none 0 0)) (by first | rfl | simp))
  clear hO_
  generalize ((((wg.setCell ⟨w.heap.size+1+1+1,0,none⟩ (.slice none 0 0)).setCell ⟨w.heap.size+1+1+1,1,none⟩ (.int .i64 0)).setCell ⟨w.heap.size+1+1+1,2,none⟩ (.int .i64 0)).setCell ⟨w.heap.size+1+1+1,3,none⟩ (.slice none 0 0))=wz at *
  obtain ⟨lB1,cB1,fB1⟩:=B1.out
  obtain ⟨lB2,cB2,fB2⟩:=B2.out
  obtain ⟨lB3,cB3,fB3⟩:=B3.out
  obtain ⟨lB4,cB4,fB4⟩:=B4.out
  refine bodyPost_ret (v:=.tuple #[.agg #[.slice none 0 0,.int .i64 0,.int .i64 0,.slice none 0 0],.int .i64 3]) (by simp [results,Tryz.results17,go_sem, *]) rfl ⟨kS,3,_,Foot.none,HWHY.out,rfl,OFunc.zero,fun _ h=>h.elim,HW.out⟩
 have HWHY:Hid (oC f a b (mapF (lR a b) f) 0):=h! ⟨0,HS0.out,.inr ⟨rfl,by unfold vS;rw [if_neg HSOM.out,if_neg (fun h=>h (HEQ.out.2 (by simpa using hne)))]⟩⟩
 go_wp2_with fail
 clear hne
 refine (aCW (HV.out.below HW.out) HSZ.out.1 HSZ.out.2).mono ?_
 rintro e w3 ⟨vo,SO,rfl,hO,hFr,hb⟩
 obtain ⟨⟨pa,bv,SQ,SB,rfl,hQ,hOB,hQB,hsq,hsb⟩,hlt,h64a,h64c⟩:=hO
 obtain ⟨pa2,pc2,rfl⟩:=hQ.ints.form
 obtain ⟨ab2,cb2,hbv⟩:=(hOB.reads (R0:=gD) fun _ _ _ h=>h.reads).form
 subst hbv
 have HQ:Hid (Holds [w.heap.size,w.heap.size+1,w.heap.size+1+1,w.heap.size+1+1+1] (w.heap.size+1+1+1+1) w3 SQ (fun W=>eV W SQ (.slice pa2 np pc2) f.params)):=h! (by
  have h9:=((iF hQ (fun k hk=>hFr k (hsq k hk))).from (base':=w.heap.size+1+1+1+1) (by omega)).low (bs':=[w.heap.size,w.heap.size+1,w.heap.size+1+1,w.heap.size+1+1+1]) (by intro z hz;simp at hz;omega)
  rw [<-HNP.out] at h9;exact h9)
 have HBK:Hid (Holds [w.heap.size,w.heap.size+1,w.heap.size+1+1,w.heap.size+1+1+1] (w.heap.size+1+1+1+1) w3 SB (fun W=>eX W SB (.slice ab2 nb cb2) f.blocks)):=h! (by
  have h9:=((mY OBlock.nice hOB (fun k hk=>hFr k (hsb k hk))).from (base':=w.heap.size+1+1+1+1) (by omega)).low (bs':=[w.heap.size,w.heap.size+1,w.heap.size+1+1,w.heap.size+1+1+1]) (by intro z hz;simp at hz;omega)
  rw [<-HNB.out] at h9;exact h9)
 have HQB:=h! hQB
 have HA64:=h! (And.intro h64a h64c)
 rw [<-HAC.out.1, <-HAC.out.2, <-HNP.out, <-HNB.out]
 clear hQ hOB hQB hsq hsb hlt hFr h64a h64c
 clear lB1 cB1 fB1 lB2 cB2 fB2 lB3 cB3 fB3 lB4 cB4 fB4
 replace B1:=h! (B1.out.later hb)
 replace B2:=h! (B2.out.later hb)
 replace B3:=h! (B3.out.later hb)
 replace B4:=h! (B4.out.later hb)
 replace HW:=h! (HW.out.trans (hb.mono HW.out.size))
 clear hb
 obtain ⟨lB1,cB1,fB1⟩:=B1.out
 obtain ⟨lB2,cB2,fB2⟩:=B2.out
 obtain ⟨lB3,cB3,fB3⟩:=B3.out
 obtain ⟨lB4,cB4,fB4⟩:=B4.out
 go_upto_region 11 with (fail)
 replace HQ:=h! (HQ.out.more (aA _))
 replace HBK:=h! (HBK.out.more (aA _))
 have nB5B1:w3.heap.size ≠ w.heap.size:=fun e=>by have:=lB1;omega
 have nB1B5:w.heap.size ≠ w3.heap.size:=fun e=>nB5B1 e.symm
 have nB5B2:w3.heap.size ≠ w.heap.size+1:=fun e=>by have:=lB2;omega
 have nB2B5:w.heap.size+1 ≠ w3.heap.size:=fun e=>nB5B2 e.symm
 have nB5B3:w3.heap.size ≠ w.heap.size+1+1:=fun e=>by have:=lB3;omega
 have nB3B5:w.heap.size+1+1 ≠ w3.heap.size:=fun e=>nB5B3 e.symm
 have nB5B4:w3.heap.size ≠ w.heap.size+1+1+1:=fun e=>by have:=lB4;omega
 have nB4B5:w.heap.size+1+1+1 ≠ w3.heap.size:=fun e=>nB5B4 e.symm
 clear lB1 cB1 fB1 lB2 cB2 fB2 lB3 cB3 fB3 lB4 cB4 fB4
 have hA_:=(Below.refl w3.heap.size w3).alloc (aA _) (.cells #[.slice pa2 np pc2,.int .i64 ar,.int .i64 ce,.slice ab2 nb cb2] 25)
 replace B1:=h! (B1.out.later hA_)
 replace B2:=h! (B2.out.later hA_)
 replace B3:=h! (B3.out.later hA_)
 replace B4:=h! (B4.out.later hA_)
 replace HQ:=h! (HQ.out.later hA_)
 replace HBK:=h! (HBK.out.later hA_)
 replace HW:=h! (HW.out.trans (hA_.mono HW.out.size))
 clear hA_
 have B5:=h! (Box.new w3 #[.slice pa2 np pc2,.int .i64 ar,.int .i64 ce,.slice ab2 nb cb2] 25)
 generalize w3.alloc (.cells #[.slice pa2 np pc2,.int .i64 ar,.int .i64 ce,.slice ab2 nb cb2] 25)=w4 at *
 obtain ⟨lB1,cB1,fB1⟩:=B1.out
 obtain ⟨lB2,cB2,fB2⟩:=B2.out
 obtain ⟨lB3,cB3,fB3⟩:=B3.out
 obtain ⟨lB4,cB4,fB4⟩:=B4.out
 obtain ⟨lB5,cB5,fB5⟩:=B5.out
 generalize w3.heap.size=b5 at *
 have HB23:=h! (And.intro B2.out B3.out)
 clear lB1 cB1 fB1 B1
 clear lB2 cB2 fB2 B2
 clear lB3 cB3 fB3 B3
 clear lB4 cB4 fB4 lB5 cB5 fB5
 have HCALL:Hid (Calls Tryz.prog 49 #[.pointer (some ⟨b5,0,none⟩),.func (.func 50) #[] #[.pointer (some ⟨w.heap.size+1,0,none⟩),.pointer (some ⟨w.heap.size+1+1,0,none⟩)]] w4 (MapR w4 SB (.slice ab2 nb cb2) f.blocks (lR a b))):=h! (by
  have h1:=HBK.out.now
  have h2:=B5.out.at 3 (v:=.slice ab2 nb cb2) rfl
  have h3:=B5.out.1
  rw [HNB.out] at h1 h2 ⊢
  refine mapC h2 h3 (fun hk=>HBK.out.free _ hk (by simp)) h1 uS (fun v hv => ?_) (fun W v hv ho => ?_)
  ·unfold lR;split
   ·exact H64.out.2
   exact hv
  exact aEU (HB23.out.1.off ho (fun hk=>HBK.out.free _ hk (by simp))) (HB23.out.2.off ho (fun hk=>HBK.out.free _ hk (by simp))))
 go_wp2_with fail
 refine HCALL.out.mono ?_
 rintro e w5 ⟨rfl,ho,hOB5⟩
 replace HW:=h! (HW.out.trans (ho.below (base:=w.heap.size) HW.out.size (fun k _ hk=>by have:=HBK.out.base k hk;omega)))
 replace B4:=h! (B4.out.off ho (fun hk=>HBK.out.free _ hk (by simp)))
 replace B5:=h! (B5.out.off ho (fun hk=>HBK.out.free _ hk (by simp)))
 replace HQ:=h! (HQ.out.off ho HQB.out)
 have HB2:Hid (Holds [w.heap.size,w.heap.size+1,w.heap.size+1+1,w.heap.size+1+1+1] (w.heap.size+1+1+1+1) w5 SB (fun W=>eX W SB (.slice ab2 nb cb2) (f.blocks.map (mapB (lR a b))))):=h! ⟨hOB5,fun _ _ h hk=>h.keep OBlock.nice hk,hOB5.lt,HBK.out.base,fun k hk hm=>HBK.out.free k hk (by simp at hm ⊢;omega)⟩
 clear ho hOB5 HBK HCALL HB23
 obtain ⟨lB4,cB4,fB4⟩:=B4.out
 obtain ⟨lB5,cB5,fB5⟩:=B5.out
 go_wp2
 clear lB4 cB4 fB4 lB5 cB5 fB5
 have hO_:=((((Only.set w5 (w.heap.size+1+1+1) 0 (.slice pa2 np pc2)).put 1 (.int .i64 ar)).put 2 (.int .i64 ce)).put 3 (.slice ab2 nb cb2))
 replace B5:=h! (B5.out.only hO_ (by first | assumption | (simp;done) | omega))
 replace HQ:=h! ((((HQ.out.other (p:=⟨w.heap.size+1+1+1,0,none⟩) (.slice pa2 np pc2) (by simp)).other (p:=⟨w.heap.size+1+1+1,1,none⟩) (.int .i64 ar) (by simp)).other (p:=⟨w.heap.size+1+1+1,2,none⟩) (.int .i64 ce) (by simp)).other (p:=⟨w.heap.size+1+1+1,3,none⟩) (.slice ab2 nb cb2) (by simp))
 replace HB2:=h! ((((HB2.out.other (p:=⟨w.heap.size+1+1+1,0,none⟩) (.slice pa2 np pc2) (by simp)).other (p:=⟨w.heap.size+1+1+1,1,none⟩) (.int .i64 ar) (by simp)).other (p:=⟨w.heap.size+1+1+1,2,none⟩) (.int .i64 ce) (by simp)).other (p:=⟨w.heap.size+1+1+1,3,none⟩) (.slice ab2 nb cb2) (by simp))
 replace HW:=h! (hO_.2.2 HW.out (by first | assumption | omega | (have:=HW.out.size;omega) | (simp;done) | (simp;omega)))
 replace B4:=h! (Box.to (A':=#[(.slice pa2 np pc2),(.int .i64 ar),(.int .i64 ce),(.slice ab2 nb cb2)]) ((((B4.out.set 0 (.slice pa2 np pc2)).set 1 (.int .i64 ar)).set 2 (.int .i64 ce)).set 3 (.slice ab2 nb cb2)) (by first | rfl | simp))
 clear hO_
 generalize ((((w5.setCell ⟨w.heap.size+1+1+1,0,none⟩ (.slice pa2 np pc2)).setCell ⟨w.heap.size+1+1+1,1,none⟩ (.int .i64 ar)).setCell ⟨w.heap.size+1+1+1,2,none⟩ (.int .i64 ce)).setCell ⟨w.heap.size+1+1+1,3,none⟩ (.slice ab2 nb cb2))=w6 at *
 obtain ⟨lB4,cB4,fB4⟩:=B4.out
 obtain ⟨lB5,cB5,fB5⟩:=B5.out
 refine bodyPost_ret (v:=.tuple #[.agg #[.slice pa2 np pc2,.int .i64 ar,.int .i64 ce,.slice ab2 nb cb2],.int .i64 0]) (by simp [results,Tryz.results17,go_sem, *]) rfl ⟨_,0,_,fun k=>SQ k \/ SB k,HWHY.out,rfl,⟨⟨_,_,SQ,SB,by rw [HAC.out.1,HAC.out.2];rfl,HQ.out.now,HB2.out.now,HQB.out,fun _ h=>.inl h,fun _ h=>.inr h⟩,fun k hk=>hk.elim (HQ.out.lt k) (HB2.out.lt k),HA64.out.1,HA64.out.2⟩,fun k hk=>by have:=hk.elim (HQ.out.base k) (HB2.out.base k);omega,HW.out⟩
def kN (x:BlockD):List Int:=x.phis.map (·.id) ++ (x.code.filter fun y=>decide (0 <= y.id)).map (·.id)
def kQ (f:FuncD) (b:Nat):BlockD:=f.blocks.getD b default
def idsO (f:FuncD) (O:List Nat):List Int:=O.flatMap fun b=>kN (kQ f b)
def gX (np:Nat) (ids:List Int):List (Int × Int):=ids.zipIdx.map fun p=>(p.1,((np+p.2:Nat):Int))
def parJ (np:Nat):List (Int × Int):=(List.range np).map fun i:Nat=>((i:Int),(i:Int))
def fC (np:Nat) (ids:List Int):List (Int × Int):=parJ np ++ gX np ids
def renV (np:Nat) (ids:List Int) (v:Int):Int:=(tyOf (fC np ids) v).getD 0
def renW (np:Nat) (ids:List Int) (v:Int):Int:=(tyOf (gX np ids) v).getD v
def plO (O:List Nat) (q:Int):Int:=((O.idxOf q.toNat:Nat):Int)
def renP (g:Int -> Int) (O:List Nat) (p:PhiD):PhiD :=
 ⟨g p.id,p.typ,jH (p.src.map (plO O)),(jH (p.src.map (plO O))).map fun q=>(tyOf ((p.src.map (plO O)).zip (p.vals.map g)) q).getD 0⟩
def renX (g:Int -> Int) (x:InstrD):InstrD:=⟨x.op,if 0 <= x.id then g x.id else x.id,x.args.map g,x.n⟩
def renB (g:Int -> Int) (O:List Nat) (x:BlockD):BlockD:=⟨x.phis.map (renP g O),x.code.map (renX g), { mapT g x.term with to:=x.term.to.map (plO O) }⟩
def renF (f:FuncD) (O:List Nat):FuncD := { f with blocks:=O.map fun b=>renB (renV f.params.length (idsO f O)) O (kQ f b) }
theorem lV (A B:List (Int × Int)) (v:Int):tyOf (A ++ B) v=(tyOf A v).or (tyOf B v):=by
 unfold tyOf
 rw [List.find?_append]
 cases A.find? (fun p=>p.1 == v) <;> simp
theorem pQ (np:Nat) (ids:List Int) (id:Int):gX np (ids ++ [id])=gX np ids ++ [(id,((np+ids.length:Nat):Int))]:=by
 unfold gX
 rw [List.zipIdx_append,bC]
 simp
theorem mC (np:Nat) (ids:List Int):(gX np ids).map (·.1)=ids:=by
 unfold gX
 rw [cI]
 apply bH
 intro i
 rw [aM,cP]
 cases ids[i]? <;> simp
theorem qQ (np:Nat) (ids:List Int):(gX np ids).length=ids.length:=by simp [gX]
theorem nZ {np:Nat} {v:Int}:v ∈ (parJ np).map (·.1) ↔ 0 <= v/\v < np:=by
 unfold parJ
 rw [cI,aX]
 constructor
 ·rintro ⟨i,hi,rfl⟩
  rw [cS] at hi
  simp only [Function.comp]
  omega
 rintro ⟨h1,h2⟩
 exact ⟨v.toNat,cS.2 (by omega),by simp only [Function.comp];omega⟩
theorem qR (np:Nat) (ids:List Int):(fC np ids).length=np+ids.length:=by
 unfold fC
 rw [aI,qQ]
 simp [parJ]
theorem uT (np:Nat) (ids:List Int) (id:Int):fC np (ids ++ [id])=fC np ids ++ [(id,(((fC np ids).length:Nat):Int))]:=by
 rw [qR]
 unfold fC
 rw [pQ,bN]
theorem uU {np:Nat} {ids:List Int} {v:Int} (h1:¬ (0 <= v/\v < np)) (h2:v ∉ ids):tyOf (fC np ids) v=none:=by
 unfold fC
 rw [lV,iB.2 (fun h=>h1 (nZ.1 h)),iB.2 (by rw [mC];exact h2)];rfl
structure Named (np:Nat) (ids:List Int):Prop where
 nodup:ids.Nodup
 out:∀ v ∈ ids,(np:Int) <= v
theorem pR {np:Nat} {ids:List Int} (hn:ids.Nodup) {k:Nat} {v:Int} (h:ids[k]? = some v):tyOf (gX np ids) v=some ((np+k:Nat):Int):=by
 cases hv:tyOf (gX np ids) v with
 | none=>exact absurd (by rw [mC];exact aG h) (iB.1 hv)
 | some t =>
  have h1:=pY hv
  unfold gX at h1
  rw [aX] at h1
  obtain ⟨⟨u,j⟩,h2,h3⟩:=h1
  rw [bT] at h2
  simp only at h2 h3
  have h4:=congrArg Prod.fst h3
  have h5:=congrArg Prod.snd h3
  simp only at h4 h5
  subst h4
  obtain ⟨h6,h7⟩:=aD.1 h
  obtain ⟨h8,h9⟩:=aD.1 h2
  have:j=k:=(List.getElem_inj hn).1 (by rw [h9,h7])
  rw [<-h5,this]
theorem aC2 {np:Nat} {ids:List Int} (h:Named np ids) {k:Nat} {v:Int} (hk:ids[k]? = some v):renV np ids v=((np+k:Nat):Int)/\renW np ids v=((np+k:Nat):Int):=by
 have h1:=pR (np:=np) h.nodup hk
 have h2:=h.out v (aG hk)
 constructor
 ·unfold renV fC
  rw [lV,iB.2 (fun h=>by have:=nZ.1 h;omega),h1];rfl
 unfold renW
 rw [h1];rfl
theorem pB {np:Nat} {pre post:List Int} {id:Int} (h:Named np (pre ++ id :: post)):tyOf (fC np pre) id=none/\fC np (pre ++ [id])=fC np pre ++ [(id,(((fC np pre).length:Nat):Int))]/\renV np (pre ++ id :: post) id=(((fC np pre).length:Nat):Int):=by
 have h1:=h.out id (by simp)
 have h2:=h.nodup
 rw [bZ] at h2
 refine ⟨uU (by omega) (fun hm=>h2.2.2 id hm id (by simp) rfl),uT np pre id, ?_⟩
 rw [qR]
 exact (aC2 h (k:=pre.length) (by rw [bK (aA _),dE];rfl)).1
theorem aC3 {f:FuncD} {d:Nat} {x:BlockD} (hf:gS f=true) (hx:f.blocks[d]? = some x) {p:PhiD} (hp:p ∈ x.phis):∀ q ∈ p.src,0 <= q/\q < f.blocks.length:=fun q hq=>by
 unfold gS at hf
 simp only [aK,bB] at hf
 have h8:=(mG.1 (hf.2 (x,d) (by rw [bT];exact hx))).2.1 p hp
 unfold iL at h8
 simp only [aK,bB] at h8
 have h9:=h8.1.2 q hq
 unfold numB at h9
 simp at h9
 omega
end Go.Proofs.YtagabiidbbhhmaaGreat
