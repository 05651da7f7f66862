/- Part 53. -/
import Derived.Test.YtgmhnepmkaonaaaGreatQA49
import Derived.Test.YtgmhnepmkaonaaaGreatQA51
import Derived.Test.YtgmhnepmkaonaaaGreatQA52
import Derived.Test.YtgmhnepmkaonaaaGreatQA38
namespace Go.Proofs.YtgmhnepmkaonaaaGreat
set_option maxHeartbeats 12800000
set_option linter.unusedSimpArgs false
set_option linter.unusedVariables false
open Go.RowKit
private theorem Since.alloc {w0 W:World} (h:Since w0 W) (o:Obj):Since w0 (W.alloc o):=h.later ((Below.refl _ _).alloc (Nat.le_refl _) o)
theorem fill5 {W:World} {b:Nat} {x0 x1 x2 x3 x4:Value} (h:Box W b #[x0,x1,x2,x3,x4]) (v0 v1 v2 v3 v4:Value) :
  Turn [b] W (((((W.setCell ⟨b,0,none⟩ v0).setCell ⟨b,1,none⟩ v1).setCell ⟨b,2,none⟩ v2).setCell ⟨b,3,none⟩ v3).setCell ⟨b,4,none⟩ v4)/\Box (((((W.setCell ⟨b,0,none⟩ v0).setCell ⟨b,1,none⟩ v1).setCell ⟨b,2,none⟩ v2).setCell ⟨b,3,none⟩ v3).setCell ⟨b,4,none⟩ v4) b #[v0,v1,v2,v3,v4] :=
 ⟨((((turn_set W b 0 v0).trans (turn_set _ b 1 v1)).trans (turn_set _ b 2 v2)).trans (turn_set _ b 3 v3)).trans (turn_set _ b 4 v4),by simpa using ((((h.set 0 v0).set 1 v1).set 2 v2).set 3 v3).set 4 v4⟩
set_option maxRecDepth 100000 in
theorem refLSame {w:World} {va vb:Value} {ls:List LoopD} (ha:LoopsV w va ls) (hb:LoopsV w vb ls):Calls Tryz.prog 33 #[va,vb] w fun e w'=>e = .returned (.bool true)/\Below w.heap.size w w':=by
 obtain ⟨a1,c1,b1,o1,rfl, -, -,hl1,ha1,hx1⟩:=loops_parts ha
 obtain ⟨a2,c2,b2,o2,rfl, -, -, -,ha2,hx2⟩:=loops_parts hb
 obtain ⟨n,hn⟩ : ∃ n,n=ls.length:=⟨_,rfl⟩
 rw [<-hn] at ha1 ha2 hl1 ⊢
 have HN:=hd hn
 have HA1:=hd ha1
 have HA2:=hd ha2
 have HX1:=hd hx1
 have HX2:=hd hx2
 have hnn:((n:Int) != (n:Int))=false:=by simp
 clear ha hb hn ha1 ha2 hx1 hx2
 go_enter Tryz.func33,Tryz.ntmps33
 go_wp2_with fail
 clear hnn
 go_loopw [5] (fun iv wr => ∃ i:Nat,i <= n/\iv = .int .i64 i/\Below w.heap.size w wr) (fun iv _=>n - (intOf iv).toNat)
 case atStart=>exact ⟨0,Nat.zero_le _,rfl,Below.refl _ _⟩
 case round =>
  obtain ⟨i,hi,rfl,hb⟩:=hrel
  have HW:=hd hb
  clear hb
  by_cases hlt:i < n
  ·obtain ⟨rfl,hbl1⟩:=HA1.out (by omega)
   obtain ⟨rfl,hbl2⟩:=HA2.out (by omega)
   obtain ⟨l,hl⟩ : ∃ l,ls[i]? = some l:=⟨_,List.getElem?_eq_getElem (by rw [<-HN.out];exact hlt)⟩
   obtain ⟨p1,p2,p3,d1,d2,d3,hC⟩:=HX1.out i l hl
   obtain ⟨q1,q2,q3,f1,f2,f3,hD⟩:=HX2.out i l hl
   have HC:=hd hC
   have HD:=hd hD
   clear hl hC hD
   go_upto_region 6 with (fail)
   refine Six.wp_region_grow (φ := 10) (m0:=8) (A':=#[.int .i64 l.head,.slice p1 l.blocks.length d1,.slice p2 l.latches.length d2,.slice p3 l.exits.length d3,.int .i64 l.parent]) 11 (fun kz=>match kz with | 8=>.made wr.heap.size (fun b=>.pointer (some ⟨b,0,none⟩)) #[.int .i64 0,.slice none 0 0,.slice none 0 0,.slice none 0 0,.int .i64 0] | 9=>.made wr.heap.size (fun b=>.pointer (some ⟨b,0,none⟩)) #[.int .i64 0,.slice none 0 0,.slice none 0 0,.slice none 0 0,.int .i64 0] | _=>.plain) (by kernel_rfl) (by kernel_rfl) ?_ ?_ rfl (by omega) (by omega) (by kernel_rfl) (fun ν => ?_)
   ·(intro k;(try dsimp only);split <;> first | exact True.intro | (intro u w1 w2 hu hb;exact hu.below hb))
   ·(intro k S hk;(try dsimp only at hk);split at hk <;> first | (cases hk;done) | (cases hk;intro u w1 w2 b h0 h1 h2;exact h1))
   simp only [List.take_succ_cons,List.take_zero,List.drop_succ_cons,List.drop_zero]
   iterate 3 (refine Six.Grow.val (v := ?_) (by omega) rfl rfl (fun wg hbg hdg => ?_) ?_;rotate_left;(focus (clear hbg hdg;first | (go_simp;done) | (go_simp;with_reducible rfl)));simp only [Act.put,List.setIfInBounds_toArray,List.set_cons_zero,List.set_cons_succ])
   refine Six.Grow.val (v := ?_) (by omega) rfl rfl (fun wg hbg hdg => ?_) ?_
   rotate_left
   focus ((obtain ⟨m0,m1,m2,m3,m4, -, -, -⟩:=HC.out.below (HW.out.trans (hbg.mono HW.out.size)) hbl1);clear hbg hdg;first | (go_simp;done) | (go_simp;with_reducible rfl))
   simp only [Act.put,List.setIfInBounds_toArray,List.set_cons_zero,List.set_cons_succ]
   iterate 3 (refine Six.Grow.val (v := ?_) (by omega) rfl rfl (fun wg hbg hdg => ?_) ?_;rotate_left;(focus (clear hbg hdg;first | (go_simp;done) | (go_simp;with_reducible rfl)));simp only [Act.put,List.setIfInBounds_toArray,List.set_cons_zero,List.set_cons_succ])
   refine Six.Grow.val (v := ?_) (by omega) rfl rfl (fun wg hbg hdg => ?_) ?_
   rotate_left
   focus ((obtain ⟨m0,m1,m2,m3,m4, -, -, -⟩:=HD.out.below (HW.out.trans (hbg.mono HW.out.size)) hbl2);clear hbg hdg;first | (go_simp;done) | (go_simp;with_reducible rfl))
   simp only [Act.put,List.setIfInBounds_toArray,List.set_cons_zero,List.set_cons_succ]
   iterate 2 (refine Six.Grow.made (T := ?_) (by omega) rfl rfl (fun wg hbg hdg => ?_) ?_;rotate_left;(focus (clear hbg hdg;first | (go_simp;done) | (go_simp;with_reducible rfl)));simp only [Act.put,Known.val,List.setIfInBounds_toArray,List.set_cons_zero,List.set_cons_succ])
   refine Six.Grow.fill (by omega) rfl rfl (fun wg bz hbg hdg hbe hBz hXz => ?_) ?_
   focus (simp only [hbe];refine ⟨_, ?_,(fill5 hXz (.int .i64 l.head) (.slice p1 l.blocks.length d1) (.slice p2 l.latches.length d2) (.slice p3 l.exits.length d3) (.int .i64 l.parent)).1,(fill5 hXz (.int .i64 l.head) (.slice p1 l.blocks.length d1) (.slice p2 l.latches.length d2) (.slice p3 l.exits.length d3) (.int .i64 l.parent)).2⟩;obtain ⟨lgz,cgz,fgz⟩:=hXz;clear hbg hdg;first | (go_simp;done) | (go_simp;with_reducible rfl))
   simp only [Act.put,List.setIfInBounds_toArray,List.set_cons_zero,List.set_cons_succ]
   intro wg hb hf hfull hap
   obtain ⟨bBP,hνBP,hBBP,hXBP⟩:=hfull
   obtain ⟨bBR,hνBR,hBBR,hXBR⟩:=hf 9 (by omega) (by omega)
   have nBPBR:bBP ≠ bBR:=fun e=>hap 8 9 (by omega) (by omega) (by omega) rfl rfl (by rw [hνBP,hνBR,e])
   have nBRBP:bBR ≠ bBP:=fun e=>hap 9 8 (by omega) (by omega) (by omega) rfl rfl (by rw [hνBR,hνBP,e])
   simp only [hνBP,hνBR]
   clear hνBP hνBR
   clear hap
   have gBP:=Nat.le_trans HW.out.size hBBP
   clear hBBP
   have gBR:=Nat.le_trans HW.out.size hBBR
   clear hBBR
   replace HW:=hd (HW.out.trans (hb.mono HW.out.size))
   clear hb
   have BP:=hd hXBP
   clear hXBP
   have BR:=hd hXBR
   clear hXBR
   obtain ⟨lBP,cBP,fBP⟩:=BP.out
   obtain ⟨lBR,cBR,fBR⟩:=BR.out
   clear hf
   go_upto_region 7 with (fail)
   have BP_:Box (((((wg.setCell ⟨bBR,0,none⟩ (.int .i64 l.head)).setCell ⟨bBR,1,none⟩ (.slice q1 l.blocks.length f1)).setCell ⟨bBR,2,none⟩ (.slice q2 l.latches.length f2)).setCell ⟨bBR,3,none⟩ (.slice q3 l.exits.length f3)).setCell ⟨bBR,4,none⟩ (.int .i64 l.parent)) (bBP) #[.int .i64 l.head,.slice p1 l.blocks.length d1,.slice p2 l.latches.length d2,.slice p3 l.exits.length d3,.int .i64 l.parent]:=by simpa using (((((BP.out.other (p:=⟨bBR,0,none⟩) (.int .i64 l.head) (by first | assumption | (simp;done) | omega | (dsimp only;omega))).other (p:=⟨bBR,1,none⟩) (.slice q1 l.blocks.length f1) (by first | assumption | (simp;done) | omega | (dsimp only;omega))).other (p:=⟨bBR,2,none⟩) (.slice q2 l.latches.length f2) (by first | assumption | (simp;done) | omega | (dsimp only;omega))).other (p:=⟨bBR,3,none⟩) (.slice q3 l.exits.length f3) (by first | assumption | (simp;done) | omega | (dsimp only;omega))).other (p:=⟨bBR,4,none⟩) (.int .i64 l.parent) (by first | assumption | (simp;done) | omega | (dsimp only;omega)))
   have BR_:Box (((((wg.setCell ⟨bBR,0,none⟩ (.int .i64 l.head)).setCell ⟨bBR,1,none⟩ (.slice q1 l.blocks.length f1)).setCell ⟨bBR,2,none⟩ (.slice q2 l.latches.length f2)).setCell ⟨bBR,3,none⟩ (.slice q3 l.exits.length f3)).setCell ⟨bBR,4,none⟩ (.int .i64 l.parent)) (bBR) #[(.int .i64 l.head),(.slice q1 l.blocks.length f1),(.slice q2 l.latches.length f2),(.slice q3 l.exits.length f3),(.int .i64 l.parent)]:=by simpa using (((((BR.out.set 0 (.int .i64 l.head)).set 1 (.slice q1 l.blocks.length f1)).set 2 (.slice q2 l.latches.length f2)).set 3 (.slice q3 l.exits.length f3)).set 4 (.int .i64 l.parent))
   have HW_:Below w.heap.size w (((((wg.setCell ⟨bBR,0,none⟩ (.int .i64 l.head)).setCell ⟨bBR,1,none⟩ (.slice q1 l.blocks.length f1)).setCell ⟨bBR,2,none⟩ (.slice q2 l.latches.length f2)).setCell ⟨bBR,3,none⟩ (.slice q3 l.exits.length f3)).setCell ⟨bBR,4,none⟩ (.int .i64 l.parent)):=(((((HW.out.setCell (p:=⟨bBR,0,none⟩) (by first | assumption | omega | (dsimp only;omega) | (have:=HW.out.size;omega) | (simp;done) | (simp;omega)) (.int .i64 l.head)).setCell (p:=⟨bBR,1,none⟩) (by first | assumption | omega | (dsimp only;omega) | (have:=HW.out.size;omega) | (simp;done) | (simp;omega)) (.slice q1 l.blocks.length f1)).setCell (p:=⟨bBR,2,none⟩) (by first | assumption | omega | (dsimp only;omega) | (have:=HW.out.size;omega) | (simp;done) | (simp;omega)) (.slice q2 l.latches.length f2)).setCell (p:=⟨bBR,3,none⟩) (by first | assumption | omega | (dsimp only;omega) | (have:=HW.out.size;omega) | (simp;done) | (simp;omega)) (.slice q3 l.exits.length f3)).setCell (p:=⟨bBR,4,none⟩) (by first | assumption | omega | (dsimp only;omega) | (have:=HW.out.size;omega) | (simp;done) | (simp;omega)) (.int .i64 l.parent))
   clear lBP cBP fBP lBR cBR fBR
   clear BP BR HW
   generalize (((((wg.setCell ⟨bBR,0,none⟩ (.int .i64 l.head)).setCell ⟨bBR,1,none⟩ (.slice q1 l.blocks.length f1)).setCell ⟨bBR,2,none⟩ (.slice q2 l.latches.length f2)).setCell ⟨bBR,3,none⟩ (.slice q3 l.exits.length f3)).setCell ⟨bBR,4,none⟩ (.int .i64 l.parent))=w4 at *
   have BP:=hd BP_
   clear BP_
   have BR:=hd BR_
   clear BR_
   have HW:=hd HW_
   clear HW_
   obtain ⟨lBP,cBP,fBP⟩:=BP.out
   obtain ⟨lBR,cBR,fBR⟩:=BR.out
   have H1:Hid (Ints w4 (.slice p1 l.blocks.length d1) (natI l.blocks)/\Ints w4 (.slice p2 l.latches.length d2) (natI l.latches)/\Ints w4 (.slice p3 l.exits.length d3) (natI l.exits)):=hd ⟨HC.out.blocks.below HW.out,HC.out.latches.below HW.out,HC.out.exits.below HW.out⟩
   have H2:Hid (Ints w4 (.slice q1 l.blocks.length f1) (natI l.blocks)/\Ints w4 (.slice q2 l.latches.length f2) (natI l.latches)/\Ints w4 (.slice q3 l.exits.length f3) (natI l.exits)):=hd ⟨HD.out.blocks.below HW.out,HD.out.latches.below HW.out,HD.out.exits.below HW.out⟩
   have hh:((l.head:Int) != (l.head:Int))=false:=by simp
   have hp:(l.parent != l.parent)=false:=by simp
   have HR4:Hid (Since w4 w4):=hd (Below.refl _ _)
   go_wp2_with fail
   refine (sameB H1.out.1 H2.out.1).mono ?_
   rintro e w5 ⟨rfl,hb⟩
   rw [decide_eq_true (show natI l.blocks=natI l.blocks from rfl)]
   clear lBP cBP fBP lBR cBR fBR
   replace BP:=hd (BP.out.later hb)
   replace BR:=hd (BR.out.later hb)
   replace HR4:=hd (HR4.out.later hb)
   replace HW:=hd (HW.out.trans (hb.mono HW.out.size))
   clear hb
   obtain ⟨lBP,cBP,fBP⟩:=BP.out
   obtain ⟨lBR,cBR,fBR⟩:=BR.out
   go_wp2_with fail
   refine (sameB (H1.out.2.1.below HR4.out) (H2.out.2.1.below HR4.out)).mono ?_
   rintro e w6 ⟨rfl,hb⟩
   rw [decide_eq_true (show natI l.latches=natI l.latches from rfl)]
   clear lBP cBP fBP lBR cBR fBR
   replace BP:=hd (BP.out.later hb)
   replace BR:=hd (BR.out.later hb)
   replace HR4:=hd (HR4.out.later hb)
   replace HW:=hd (HW.out.trans (hb.mono HW.out.size))
   clear hb
   obtain ⟨lBP,cBP,fBP⟩:=BP.out
   obtain ⟨lBR,cBR,fBR⟩:=BR.out
   go_wp2_with fail
   refine (sameB (H1.out.2.2.below HR4.out) (H2.out.2.2.below HR4.out)).mono ?_
   rintro e w7 ⟨rfl,hb⟩
   rw [decide_eq_true (show natI l.exits=natI l.exits from rfl)]
   clear lBP cBP fBP lBR cBR fBR
   replace BP:=hd (BP.out.later hb)
   replace BR:=hd (BR.out.later hb)
   replace HR4:=hd (HR4.out.later hb)
   replace HW:=hd (HW.out.trans (hb.mono HW.out.size))
   clear hb
   obtain ⟨lBP,cBP,fBP⟩:=BP.out
   obtain ⟨lBR,cBR,fBR⟩:=BR.out
   go_wp2
   clear lBP cBP fBP lBR cBR fBR
   go_roundw
   case rel=>exact ⟨i+1,hlt,by go_num,HW.out⟩
   case measure=>simp [intOf];omega
  ·obtain rfl:n=i:=by omega
   go_wp2
   go_ret
   exact ⟨rfl,HW.out⟩
theorem ErrK.serr {f:FuncD} {k:Int} (h:ErrK f k):SErr f k:=h
set_option maxRecDepth 100000 in
theorem walkFound {w:World} {v:Value} (f:FuncD) (hv:FuncV w v f) :
  Calls Tryz.prog 8 #[v] w fun e w'=>e = .returned (.bool true)/\Below w.heap.size w w':=by
 have HV:=hd hv
 obtain ⟨ap,cp,ab,cb,rfl, -, -, -, -⟩:=hv.form
 clear hv
 go_enter Tryz.func8,Tryz.ntmps8
 go_upto_region 1 with (fail)
 have B1:Hid (Box (w.alloc (.cells #[.slice ap f.params.length cp,.int .i64 f.arrays,.int .i64 f.cells,.slice ab f.blocks.length cb] 25)) (w.heap.size) #[.slice ap f.params.length cp,.int .i64 f.arrays,.int .i64 f.cells,.slice ab f.blocks.length cb]):=hd (by simpa using (Box.new w #[.slice ap f.params.length cp,.int .i64 f.arrays,.int .i64 f.cells,.slice ab f.blocks.length cb] 25))
 have HW:Hid (Below w.heap.size w (w.alloc (.cells #[.slice ap f.params.length cp,.int .i64 f.arrays,.int .i64 f.cells,.slice ab f.blocks.length cb] 25))):=hd ((Below.refl _ _).alloc (Nat.le_refl _) _)
 generalize (w.alloc (.cells #[.slice ap f.params.length cp,.int .i64 f.arrays,.int .i64 f.cells,.slice ab f.blocks.length cb] 25))=wv at *
 obtain ⟨lB1,cB1,fB1⟩:=B1.out
 go_wp2_with fail
 refine (loopsForest (HV.out.below HW.out)).mono ?_
 rintro e w2 ⟨hb,⟨hn,k,⟨hk,hke⟩,rfl⟩ | ⟨hc0,hF,a,c,O,rfl,hO,hL⟩⟩
 ·have HKE:=hd hke.serr
  have hk0:(k != 0)=true:=by simpa using hk
  clear hn hk hke
  clear lB1 cB1 fB1
  replace B1:=hd (B1.out.later hb)
  replace HW:=hd (HW.out.trans (hb.mono HW.out.size))
  clear hb
  obtain ⟨lB1,cB1,fB1⟩:=B1.out
  go_wp2_with fail
  refine (refCheck5 (HV.out.below HW.out)).mono ?_
  rintro e w3 ⟨b,g,rfl,h1,h2,hb⟩
  obtain rfl:=(SErr.of_check h1 h2).one HKE.out
  clear h1 h2
  clear lB1 cB1 fB1
  replace B1:=hd (B1.out.later hb)
  replace HW:=hd (HW.out.trans (hb.mono HW.out.size))
  clear hb
  obtain ⟨lB1,cB1,fB1⟩:=B1.out
  have hgg:(g != g)=false:=by simp
  go_wp2_with fail
  refine awake9.mono ?_
  rintro e w4 ⟨rfl,hb⟩
  clear lB1 cB1 fB1
  replace B1:=hd (B1.out.later hb)
  replace HW:=hd (HW.out.trans (hb.mono HW.out.size))
  clear hb
  obtain ⟨lB1,cB1,fB1⟩:=B1.out
  go_wp2
  go_ret
  exact ⟨rfl,HW.out⟩
 ·have HC:=hd (And.intro hc0 hF)
  have HS0:Hid (SErr f 0):=hd (.inr ⟨hc0,0,hF⟩)
  obtain ⟨nl,hnl⟩ : ∃ nl,nl=(loopsF f).length:=⟨_,rfl⟩
  rw [<-hnl] at hL ⊢
  have HLV:=hd hL
  have HNL:=hd hnl
  have H22:Hid (Since w2 w2):=hd (Below.refl _ _)
  clear hc0 hF hO hL hnl
  clear lB1 cB1 fB1
  replace B1:=hd (B1.out.later hb)
  replace HW:=hd (HW.out.trans (hb.mono HW.out.size))
  clear hb
  obtain ⟨lB1,cB1,fB1⟩:=B1.out
  go_wp2_with fail
  refine (refCheck5 (HV.out.below HW.out)).mono ?_
  rintro e w3 ⟨b,g,rfl,h1,h2,hb⟩
  obtain rfl:=(SErr.of_check h1 h2).one HS0.out
  clear h1 h2
  clear lB1 cB1 fB1
  replace B1:=hd (B1.out.later hb)
  replace H22:=hd (H22.out.later hb)
  replace HW:=hd (HW.out.trans (hb.mono HW.out.size))
  clear hb
  obtain ⟨lB1,cB1,fB1⟩:=B1.out
  go_wp2_with fail
  refine awake9.mono ?_
  rintro e w4 ⟨rfl,hb⟩
  clear lB1 cB1 fB1
  replace B1:=hd (B1.out.later hb)
  replace H22:=hd (H22.out.later hb)
  replace HW:=hd (HW.out.trans (hb.mono HW.out.size))
  clear hb
  obtain ⟨lB1,cB1,fB1⟩:=B1.out
  go_wp2_with fail
  refine (refForest (HV.out.below HW.out) (check_fine HC.out.1).1).mono ?_
  rintro e w5 ⟨a5,c5,S5,rfl,hO5, -,hb⟩
  have hL5:LoopsV w5 (.slice a5 (loopsF f).length c5) (loopsF f):=hO5.reads fun _ _ _ h=>h.reads
  have HL5:=hd hL5
  clear hO5
  rw [<-HNL.out] at HL5 ⊢
  clear hL5
  clear lB1 cB1 fB1
  replace B1:=hd (B1.out.later hb)
  replace H22:=hd (H22.out.later hb)
  replace HW:=hd (HW.out.trans (hb.mono HW.out.size))
  clear hb
  obtain ⟨lB1,cB1,fB1⟩:=B1.out
  go_wp2_with fail
  refine (refLSame (ls:=loopsF f) (HLV.out.below LoopV.lasting H22.out) HL5.out).mono ?_
  rintro e w6 ⟨rfl,hb⟩
  clear lB1 cB1 fB1
  replace B1:=hd (B1.out.later hb)
  replace H22:=hd (H22.out.later hb)
  replace HW:=hd (HW.out.trans (hb.mono HW.out.size))
  clear hb
  obtain ⟨lB1,cB1,fB1⟩:=B1.out
  go_wp2
  go_ret
  exact ⟨rfl,HW.out⟩
set_option maxRecDepth 100000 in
theorem walkDepths {w:World} {v:Value} (f:FuncD) (hv:FuncV w v f) :
  Calls Tryz.prog 9 #[v] w fun e w'=>e = .returned (.bool true)/\Below w.heap.size w w':=by
 have HV:=hd hv
 obtain ⟨ap,cp,ab,cb,rfl, -, -, -, -⟩:=hv.form
 obtain ⟨nb,hnb⟩ : ∃ nb,nb=f.blocks.length:=⟨_,rfl⟩
 have HNB:=hd hnb
 rw [<-hnb] at HV
 rw [<-hnb]
 clear hv hnb
 go_enter Tryz.func9,Tryz.ntmps9
 go_upto_region 1 with (fail)
 have B1:Hid (Box (w.alloc (.cells #[.slice ap f.params.length cp,.int .i64 f.arrays,.int .i64 f.cells,.slice ab nb cb] 25)) (w.heap.size) #[.slice ap f.params.length cp,.int .i64 f.arrays,.int .i64 f.cells,.slice ab nb cb]):=hd (by simpa using (Box.new w #[.slice ap f.params.length cp,.int .i64 f.arrays,.int .i64 f.cells,.slice ab nb cb] 25))
 have HW:Hid (Below w.heap.size w (w.alloc (.cells #[.slice ap f.params.length cp,.int .i64 f.arrays,.int .i64 f.cells,.slice ab nb cb] 25))):=hd ((Below.refl _ _).alloc (Nat.le_refl _) _)
 generalize (w.alloc (.cells #[.slice ap f.params.length cp,.int .i64 f.arrays,.int .i64 f.cells,.slice ab nb cb] 25))=wv at *
 obtain ⟨lB1,cB1,fB1⟩:=B1.out
 go_wp2_with fail
 refine (loopsDepths (HV.out.below HW.out)).mono ?_
 rintro e w2 ⟨hb,⟨hn,k,⟨hk,hke⟩,rfl⟩ | ⟨hc0,hF,dg,rfl,hdi⟩⟩
 ·have HKE:=hd hke.serr
  have HNO:=hd hn
  have hk0:(k != 0)=true:=by simpa using hk
  clear hn hk hke
  clear lB1 cB1 fB1
  replace B1:=hd (B1.out.later hb)
  replace HW:=hd (HW.out.trans (hb.mono HW.out.size))
  clear hb
  obtain ⟨lB1,cB1,fB1⟩:=B1.out
  go_wp2_with fail
  refine (loopsOdd (HV.out.below HW.out)).mono ?_
  rintro e w3 ⟨hb,⟨-,k2,⟨-,hke⟩,rfl⟩ | ⟨hc,hF, -⟩⟩
  rotate_left
  ·exact absurd ⟨hc,hF⟩ HNO.out
  obtain rfl:=hke.serr.one HKE.out
  clear hke
  clear lB1 cB1 fB1
  replace B1:=hd (B1.out.later hb)
  replace HW:=hd (HW.out.trans (hb.mono HW.out.size))
  clear hb
  obtain ⟨lB1,cB1,fB1⟩:=B1.out
  go_wp2_with fail
  refine (refCheck5 (HV.out.below HW.out)).mono ?_
  rintro e w4 ⟨b,g,rfl,h1,h2,hb⟩
  obtain rfl:=(SErr.of_check h1 h2).one HKE.out
  clear h1 h2
  clear lB1 cB1 fB1
  replace B1:=hd (B1.out.later hb)
  replace HW:=hd (HW.out.trans (hb.mono HW.out.size))
  clear hb
  obtain ⟨lB1,cB1,fB1⟩:=B1.out
  have hgg:(g != g)=false:=by simp
  go_wp2_with fail
  refine awake9.mono ?_
  rintro e w5 ⟨rfl,hb⟩
  clear lB1 cB1 fB1
  replace B1:=hd (B1.out.later hb)
  replace HW:=hd (HW.out.trans (hb.mono HW.out.size))
  clear hb
  obtain ⟨lB1,cB1,fB1⟩:=B1.out
  go_wp2
  go_ret
  exact ⟨rfl,HW.out⟩
 have HC:=hd (And.intro hc0 hF)
 have HS0:Hid (SErr f 0):=hd (.inr ⟨hc0,0,hF⟩)
 obtain ⟨hn1,hn2⟩:=formB_nb (check_fine hc0).1
 rw [<-HNB.out] at hn1 hn2
 have HDI:Hid (Ints w2 (.slice (some ⟨dg,0,none⟩) nb nb) (depthsF f)):=hd (by rw [HNB.out];exact hdi)
 rw [<-HNB.out]
 have H22:Hid (Since w2 w2):=hd (Below.refl _ _)
 clear hc0 hF hdi
 clear lB1 cB1 fB1
 replace B1:=hd (B1.out.later hb)
 replace HW:=hd (HW.out.trans (hb.mono HW.out.size))
 clear hb
 obtain ⟨lB1,cB1,fB1⟩:=B1.out
 go_wp2_with fail
 refine (loopsOdd (HV.out.below HW.out)).mono ?_
 rintro e w3 ⟨hb,⟨hn, -⟩ | ⟨-, -,O,oa,oc,hO,rfl,hoi⟩⟩
 ·exact absurd HC.out hn
 obtain ⟨no,hno⟩ : ∃ no,no=(oddF f O).length:=⟨_,rfl⟩
 rw [<-hno] at hoi ⊢
 have HOI:=hd hoi
 have HO:=hd hO
 have HNO:=hd hno
 have H33:Hid (Since w3 w3):=hd (Below.refl _ _)
 clear hoi hO hno
 clear lB1 cB1 fB1
 replace B1:=hd (B1.out.later hb)
 replace H22:=hd (H22.out.later hb)
 replace HW:=hd (HW.out.trans (hb.mono HW.out.size))
 clear hb
 obtain ⟨lB1,cB1,fB1⟩:=B1.out
 go_wp2_with fail
 refine (refCheck5 (HV.out.below HW.out)).mono ?_
 rintro e w4 ⟨b,g,rfl,h1,h2,hb⟩
 obtain rfl:=(SErr.of_check h1 h2).one HS0.out
 clear h1 h2
 clear lB1 cB1 fB1
 replace B1:=hd (B1.out.later hb)
 replace H22:=hd (H22.out.later hb)
 replace H33:=hd (H33.out.later hb)
 replace HW:=hd (HW.out.trans (hb.mono HW.out.size))
 clear hb
 obtain ⟨lB1,cB1,fB1⟩:=B1.out
 go_wp2_with fail
 refine awake9.mono ?_
 rintro e w5 ⟨rfl,hb⟩
 clear lB1 cB1 fB1
 replace B1:=hd (B1.out.later hb)
 replace H22:=hd (H22.out.later hb)
 replace H33:=hd (H33.out.later hb)
 replace HW:=hd (HW.out.trans (hb.mono HW.out.size))
 clear hb
 obtain ⟨lB1,cB1,fB1⟩:=B1.out
 have hmk:=run_make_row' (P:=Tryz.prog) 22 3 (.int .i64 0) 8 Tryz.underlying22 infoInt rfl .i64 .i64 nb (by omega) (by omega)
 go_upto_region 9 with (fail)
 have hwdb:w.heap.size < w5.heap.size:=lB1
 have hw2db:w2.heap.size <= w5.heap.size:=H22.out.size
 have hw3db:w3.heap.size <= w5.heap.size:=H33.out.size
 have nBDB1:w5.heap.size ≠ w.heap.size:=fun e=>by have:=lB1;omega
 have nB1BD:w.heap.size ≠ w5.heap.size:=fun e=>nBDB1 e.symm
 have B1_:Box (w5.alloc (.cells (madeCells #[.int .i64 0] nb) 3)) (w.heap.size) #[.slice ap f.params.length cp,.int .i64 f.arrays,.int .i64 f.cells,.slice ab nb cb]:=by simpa using (B1.out.alloc _)
 have BD_:Box (w5.alloc (.cells (madeCells #[.int .i64 0] nb) 3)) (w5.heap.size) (madeCells #[.int .i64 0] nb):=by first | exact (Box.new w5 (madeCells #[.int .i64 0] nb) 3) | simpa using (Box.new w5 (madeCells #[.int .i64 0] nb) 3)
 have H22_:=(H22.out.alloc (.cells (madeCells #[.int .i64 0] nb) 3))
 have H33_:=(H33.out.alloc (.cells (madeCells #[.int .i64 0] nb) 3))
 have HW_:Below w.heap.size w (w5.alloc (.cells (madeCells #[.int .i64 0] nb) 3)):=(HW.out.alloc (by first | exact Nat.le_refl _ | exact HW.out.size | (simp only [World.size_alloc,World.size_setCell];have:=HW.out.size;omega)) _)
 clear lB1 cB1 fB1
 clear B1 H22 H33 HW
 generalize (w5.alloc (.cells (madeCells #[.int .i64 0] nb) 3))=w6 at *
 have B1:=hd B1_
 clear B1_
 have BD:=hd BD_
 clear BD_
 have H22:=hd H22_
 clear H22_
 have H33:=hd H33_
 clear H33_
 have HW:=hd HW_
 clear HW_
 obtain ⟨lB1,cB1,fB1⟩:=B1.out
 obtain ⟨lBD,cBD,fBD⟩:=BD.out
 rw [ints_madeB] at BD cBD
 clear hmk
 obtain ⟨db,hdb⟩ : ∃ db,db=w5.heap.size:=⟨_,rfl⟩
 have hd6:w5.heap.size < w6.heap.size:=lBD
 rw [<-hdb] at BD hwdb hw2db hw3db hd6 ⊢
 clear hdb
 clear lB1 cB1 fB1 lBD cBD fBD
 obtain ⟨lB1,cB1,fB1⟩:=B1.out
 obtain ⟨lBD,cBD,fBD⟩:=BD.out
 go_wp2_with fail
 refine (refForest (HV.out.below HW.out) (check_fine HC.out.1).1).mono ?_
 rintro e w7 ⟨a7,c7,S7,rfl,hO7,hF7,hb⟩
 have HOLW:Hid (∀ W:World,Off (fun q=>q=db) w7 W -> LoopsV W (.slice a7 (loopsF f).length c7) (loopsF f)):=hd (fun W ho=>(hO7.off OLoop.nice ho (fun q hq e=>by have h9:q=db:=e;have:=hF7 q hq;omega)).reads fun _ _ _ h=>h.reads)
 have hlen:=heads_le f
 obtain ⟨nl,hnl⟩ : ∃ nl,nl=(loopsF f).length:=⟨_,rfl⟩
 rw [<-hnl] at hlen HOLW ⊢
 have HNL:=hd hnl
 have hnl5:nl <= 512:=by have:=HNB.out;omega
 have H77:Hid (Since w7 w7):=hd (Below.refl _ _)
 clear hO7 hF7 hnl
 clear lB1 cB1 fB1 lBD cBD fBD
 replace B1:=hd (B1.out.later hb)
 replace BD:=hd (BD.out.later hb)
 replace H22:=hd (H22.out.later hb)
 replace H33:=hd (H33.out.later hb)
 replace HW:=hd (HW.out.trans (hb.mono HW.out.size))
 clear hb
 obtain ⟨lB1,cB1,fB1⟩:=B1.out
 obtain ⟨lBD,cBD,fBD⟩:=BD.out
 go_wp2_with fail
 clear lB1 cB1 fB1 lBD cBD fBD
 have HW7:=HW
 have B17:=B1
 have BD7:=BD
 have H227:=H22
 have H337:=H33
 have gdb:db < w7.heap.size:=BD.out.lt
 have gw2:w2.heap.size <= db:=hw2db
 have gw3:w3.heap.size <= db:=hw3db
 have gwd:w.heap.size < db:=hwdb
 clear HW B1 BD H22 H33 H77
 go_loopw [11] (fun iv wr => ∃ k:Nat,k <= nl/\iv = .int .i64 k/\Box wr db (intsB (depK f k))/\Off (fun q=>q=db) w7 wr) (fun iv _=>nl - (intOf iv).toNat)
 case atStart=>exact ⟨0,Nat.zero_le _,rfl,by rw [depK_zero, <-HNB.out];exact BD7.out,Off.refl _ _⟩
 case round =>
  obtain ⟨k,hk,rfl,hbd,ho⟩:=hrel
  have BD:=hd hbd
  have HO7:=hd ho
  clear hbd ho
  by_cases hlt:k < nl
  ·obtain ⟨l,hl⟩ : ∃ l,(loopsF f)[k]? = some l:=⟨_,List.getElem?_eq_getElem (by rw [<-HNL.out];exact hlt)⟩
   have HL:=hd hl
   obtain ⟨hnd,hlb,hll⟩:=loopsF_in hl
   have HND:=hd hnd
   have HLB:=hd hlb
   obtain ⟨n1,hn1'⟩ : ∃ n1,n1=l.blocks.length:=⟨_,rfl⟩
   have HN1:=hd hn1'
   rw [<-hn1', <-HNB.out] at hll
   clear hl hnd hlb hn1'
   go_wp2_with fail
   have BD5:=BD
   have HO5:=HO7
   clear BD HO7
   go_loopw [12] (fun iv wr => ∃ j:Nat,j <= n1/\iv = .int .i64 j/\Box wr db (intsB (depJ f k l.blocks j))/\Off (fun q=>q=db) w7 wr) (fun iv _=>n1 - (intOf iv).toNat)
   case atStart=>exact ⟨0,Nat.zero_le _,rfl,by rw [depJ_zero];exact BD5.out,HO5.out⟩
   case round =>
    obtain ⟨j,hj,rfl,hbd,ho⟩:=hrel
    have BD:=hd hbd
    have HO7:=hd ho
    have HW:Hid (Below w.heap.size w wr):=hd (HW7.out.trans (ho.below HW7.out.size (fun q _ hq=>by have h9:q=db:=hq;omega)))
    have hLV:=HOLW.out wr ho
    rw [HNL.out] at hLV
    obtain ⟨a9,c9,b0,o0,he, -, -, -,ha,hx⟩:=loops_parts hLV
    injection he with e1 e2 e3
    subst e1
    subst e3
    obtain ⟨rfl,hb0⟩:=ha (by rw [<-HNL.out];omega)
    obtain ⟨a1,a2,a3,c1,c2,c3,hC⟩:=hx k l HL.out
    have HCL:=hd hC
    have k1:=hC.k1
    rw [<-HN1.out] at k1
    clear hbd ho hLV ha hx hC e2
    by_cases hjt:j < n1
    ·obtain ⟨p,hp⟩ : ∃ p,l.blocks[j]? = some p:=⟨_,List.getElem?_eq_getElem (by rw [<-HN1.out];exact hjt)⟩
     have hpn:=HLB.out p (List.mem_of_getElem? hp)
     have hdn:=depJ_next (f:=f) (k:=k) hp HND.out hpn
     have hda:=depJ_at (f:=f) (k:=k) hp HND.out hpn
     have hcl:=cntK_le f k p
     obtain ⟨ct,hct⟩ : ∃ ct,ct=cntK f k p:=⟨_,rfl⟩
     rw [<-hct] at hdn hda hcl
     rw [<-HNB.out] at hpn
     have HDN:=hd hdn
     obtain ⟨gb,go_,gc,he,hgl, -, -,hgx⟩:=ints_cells HCL.out.blocks (by rw [natI_len, <-HN1.out];omega)
     rw [natI_len, <-HN1.out] at hgx
     rw [natI_len] at he
     injection he with x1 x2 x3
     subst x1
     subst x3
     have hpc:=hgx j hjt
     have hgv:(natI l.blocks).getD j 0=(p:Int):=by unfold natI;rw [List.getD_eq_getElem?_getD,List.getElem?_map,hp];rfl
     rw [hgv] at hpc
     have hfl:=intsB_at hda
     clear hgx hgv hp x2 hct hda hdn
     obtain ⟨lBD,cBD,fBD⟩:=BD.out
     go_upto_region 15 with (fail)
     have hst:Hid (Off (fun q=>q=db) wr (wr.setCell ⟨db,p,none⟩ (.int .i64 ((ct:Int)+1)))):=hd (Off.set wr ⟨db,p,none⟩ _)
     have BD_:Box (wr.setCell ⟨db,p,none⟩ (.int .i64 ((ct:Int)+1))) (db) (((intsB (depJ f k l.blocks j))).setIfInBounds p (.int .i64 ((ct:Int)+1))):=by first | exact (BD.out.set p (.int .i64 ((ct:Int)+1))) | simpa using (BD.out.set p (.int .i64 ((ct:Int)+1)))
     have HW_:Below w.heap.size w (wr.setCell ⟨db,p,none⟩ (.int .i64 ((ct:Int)+1))):=(HW.out.setCell (p:=⟨db,p,none⟩) (by first | assumption | omega | (dsimp only;omega) | (have:=HW.out.size;omega) | (simp;done) | (simp;omega)) (.int .i64 ((ct:Int)+1)))
     clear lBD cBD fBD
     clear BD HW
     generalize (wr.setCell ⟨db,p,none⟩ (.int .i64 ((ct:Int)+1)))=w8 at *
     have BD:=hd BD_
     clear BD_
     have HW:=hd HW_
     clear HW_
     obtain ⟨lBD,cBD,fBD⟩:=BD.out
     rw [intsB_set,HDN.out] at BD
     clear hfl hpc k1
     clear lBD cBD fBD
     go_wp2
     go_roundw
     case rel=>exact ⟨j+1,hjt,by go_num,BD.out,HO7.out.trans hst.out⟩
     case measure=>simp [intOf];omega
    ·obtain rfl:n1=j:=by omega
     have HNX:Hid (Box wr db (intsB (depK f (k+1)))):=hd (by have h9:=BD.out;rw [HN1.out,depJ_all HL.out] at h9;exact h9)
     go_wp2
     clear k1
     go_roundw
     case rel=>exact ⟨k+1,hlt,by go_num,HNX.out,HO7.out⟩
     case measure=>simp [intOf];omega
  ·obtain rfl:nl=k:=by omega
   have HNX:Hid (Ints wr (.slice (some ⟨db,0,none⟩) nb nb) (depthsF f)):=hd (intsB_ints (by unfold depthsF;rw [<-HNL.out];exact BD.out) (by unfold depthsF;rw [depK_len,HNB.out]) (by omega) (depK_in (by rw [<-HNL.out];exact hnl5)))
   have HW:Hid (Below w.heap.size w wr):=hd (HW7.out.trans (HO7.out.below HW7.out.size (fun q _ hq=>by have h9:q=db:=hq;omega)))
   have H22:Hid (Since w2 wr):=hd (H227.out.trans (HO7.out.below H227.out.size (fun q _ hq=>by have h9:q=db:=hq;omega)))
   have H33:Hid (Since w3 wr):=hd (H337.out.trans (HO7.out.below H337.out.size (fun q _ hq=>by have h9:q=db:=hq;omega)))
   have B1:=hd (B17.out.off HO7.out (fun hq=>by have h9:w.heap.size=db:=hq;omega))
   obtain ⟨lB1,cB1,fB1⟩:=B1.out
   go_wp2_with fail
   refine (sameB (HDI.out.below H22.out) HNX.out).mono ?_
   rintro e w8 ⟨rfl,hb⟩
   rw [decide_eq_true (show depthsF f=depthsF f from rfl)]
   clear lB1 cB1 fB1
   replace B1:=hd (B1.out.later hb)
   replace H22:=hd (H22.out.later hb)
   replace H33:=hd (H33.out.later hb)
   replace HW:=hd (HW.out.trans (hb.mono HW.out.size))
   clear hb
   obtain ⟨lB1,cB1,fB1⟩:=B1.out
   go_wp2_with fail
   refine (refOdd (HV.out.below HW.out) HC.out.1 HC.out.2).mono ?_
   rintro e w9 ⟨Q,qa,qc,hQ,rfl,hqi,hb⟩
   obtain rfl:=order_one HO.out hQ
   rw [<-HNO.out] at hqi ⊢
   have HQI:=hd hqi
   clear hQ hqi
   clear lB1 cB1 fB1
   replace B1:=hd (B1.out.later hb)
   replace H22:=hd (H22.out.later hb)
   replace H33:=hd (H33.out.later hb)
   replace HW:=hd (HW.out.trans (hb.mono HW.out.size))
   clear hb
   obtain ⟨lB1,cB1,fB1⟩:=B1.out
   go_wp2_with fail
   refine (sameB (HOI.out.below H33.out) HQI.out).mono ?_
   rintro e w10 ⟨rfl,hb⟩
   rw [decide_eq_true (show natI (oddF f O)=natI (oddF f O) from rfl)]
   clear lB1 cB1 fB1
   replace B1:=hd (B1.out.later hb)
   replace H22:=hd (H22.out.later hb)
   replace H33:=hd (H33.out.later hb)
   replace HW:=hd (HW.out.trans (hb.mono HW.out.size))
   clear hb
   obtain ⟨lB1,cB1,fB1⟩:=B1.out
   go_wp2
   go_ret
   exact ⟨rfl,HW.out⟩
end Go.Proofs.YtgmhnepmkaonaaaGreat
