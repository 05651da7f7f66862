/- Part 56. -/
import Derived.Test.YtcmflfkpeodicaaGreatIRA42
import Derived.Test.YtcmflfkpeodicaaGreatIRA53
import Derived.Test.YtcmflfkpeodicaaGreatIRA55
namespace Go.Proofs.YtcmflfkpeodicaaGreat
set_option linter.all false
open Go.RowKit
private theorem fG.alloc {w0 W:World} (h:fG w0 W) (o:Obj):fG w0 (W.alloc o):=h.later ((Below.refl _ _).alloc (aF _) o)
set_option maxHeartbeats 51200000 in
set_option maxRecDepth 100000 in
theorem aGU {w:World} {v u:Value} {f:FuncD} {i:InputD} {fuel:Int} (hv:gG w v f) (hi:nA w u i) (hfu:In64 fuel) (hmax:fuel <= 200000):Calls Tryz.prog 14 #[v,u,.int .i64 fuel] w (RunR f i fuel w):=by
 have HV:=h! hv
 have HIN:=h! hi
 obtain ⟨ap,cp,ab,cb,rfl,hp,har,hce,hbl⟩:=hv.form
 obtain ⟨ua,ub,rfl,hua,hub⟩:=hi
 obtain ⟨aa,ca,rfl⟩:=hua.form
 obtain ⟨vs,lx,lc,lbk,lo,rfl, -, -,hlb,hlw,hlcell,hlints⟩:=hub.parts
 obtain ⟨np,hnp⟩ : ∃ np,np=f.params.length:=⟨_,rfl⟩
 obtain ⟨ar,harr⟩ : ∃ ar,ar=f.arrays:=⟨_,rfl⟩
 obtain ⟨ce,hcel⟩ : ∃ ce,ce=f.cells:=⟨_,rfl⟩
 obtain ⟨nb,hnb⟩ : ∃ nb,nb=f.blocks.length:=⟨_,rfl⟩
 obtain ⟨la,hla⟩ : ∃ la,la=i.args.length:=⟨_,rfl⟩
 obtain ⟨lb,hlbe⟩ : ∃ lb,lb=i.arrays.length:=⟨_,rfl⟩
 have HDIM:=h! (show np=f.params.length/\ar=f.arrays/\ce=f.cells/\nb=f.blocks.length/\la=i.args.length/\lb=i.arrays.length from ⟨hnp,harr,hcel,hnb,hla,hlbe⟩)
 rw [<-hnp, <-harr, <-hcel, <-hnb] at HV
 rw [<-hla, <-hlbe] at HIN
 rw [<-hnp, <-harr, <-hcel, <-hnb, <-hla, <-hlbe]
 have HP:Hid (Ints w (.slice ap np cp) f.params):=h! (by rw [hnp];exact hp)
 have HUA:Hid (Ints w (.slice aa la ca) i.args):=h! (by rw [hla];exact hua)
 rw [<-hlbe] at hlb hlw hlcell hlints
 have HLW:=h! hlw
 have HLC:=h! hlcell
 have HLI:=h! hlints
 have HLAB:Hid (la <= 17592186044416):=h! (by have:=HUA.out.1.big;omega)
 clear hp har hce hbl hua hub hnp harr hcel hnb hla hfu hlbe hlw hlcell hlints
 --@A
 go_enter Tryz.func14,Tryz.ntmps14
 go_upto_region 1 with (fail)
 have hA_:=(Below.refl w.heap.size w).alloc (aF _) (.cells #[.slice ap np cp,.int .i64 ar,.int .i64 ce,.slice ab nb cb] 25)
 have HW:=h! hA_
 clear hA_
 have B3:=h! (Box.new w #[.slice ap np cp,.int .i64 ar,.int .i64 ce,.slice ab nb cb] 25)
 have hz0_:(w.alloc (.cells #[.slice ap np cp,.int .i64 ar,.int .i64 ce,.slice ab nb cb] 25)).heap.size=w.heap.size+1:=World.size_alloc _ _
 generalize w.alloc (.cells #[.slice ap np cp,.int .i64 ar,.int .i64 ce,.slice ab nb cb] 25)=wv0 at *
 have hA_:=(Below.refl wv0.heap.size wv0).alloc (aF _) (.cells #[.slice aa la ca,.slice lx lb lc] 28)
 replace B3:=h! (B3.out.later hA_)
 replace HW:=h! (HW.out.trans (hA_.mono HW.out.size))
 clear hA_
 have B4:=h! (Box.new wv0 #[.slice aa la ca,.slice lx lb lc] 28)
 rw [hz0_] at B4
 have hz1_:(wv0.alloc (.cells #[.slice aa la ca,.slice lx lb lc] 28)).heap.size=w.heap.size+1+1:=by rw [World.size_alloc,hz0_]
 clear hz0_
 generalize wv0.alloc (.cells #[.slice aa la ca,.slice lx lb lc] 28)=wv1 at *
 have hA_:=(Below.refl wv1.heap.size wv1).alloc (aF _) (.cells #[.int .i64 0,.int .i64 0,.int .i64 0,.slice none 0 0,.slice none 0 0,.int .i64 0,.int .i64 0,.slice none 0 0] 34)
 replace B3:=h! (B3.out.later hA_)
 replace B4:=h! (B4.out.later hA_)
 replace HW:=h! (HW.out.trans (hA_.mono HW.out.size))
 clear hA_
 have B6:=h! (Box.new wv1 #[.int .i64 0,.int .i64 0,.int .i64 0,.slice none 0 0,.slice none 0 0,.int .i64 0,.int .i64 0,.slice none 0 0] 34)
 rw [hz1_] at B6
 clear hz1_
 generalize wv1.alloc (.cells #[.int .i64 0,.int .i64 0,.int .i64 0,.slice none 0 0,.slice none 0 0,.int .i64 0,.int .i64 0,.slice none 0 0] 34)=wv at *
 obtain ⟨lB3,cB3,fB3⟩:=B3.out
 obtain ⟨lB4,cB4,fB4⟩:=B4.out
 obtain ⟨lB6,cB6,fB6⟩:=B6.out
 go_wp2_with fail
 refine (aH0 (HV.out.below HW.out)).mono ?_
 rintro e w2 ⟨k,rfl,hk,hb⟩
 cases k
 ·have HNO:Hid (¬ (eL f=0/\fM f 0 0/\0 <= fuel)):=h! (fun h=>by have:=hk.2 ⟨h.1,h.2.1⟩;cases this)
  clear hk
  clear lB3 cB3 fB3 lB4 cB4 fB4 lB6 cB6 fB6
  replace B3:=h! (B3.out.later hb)
  replace B4:=h! (B4.out.later hb)
  replace B6:=h! (B6.out.later hb)
  replace HW:=h! (HW.out.trans (hb.mono HW.out.size))
  clear hb
  obtain ⟨lB3,cB3,fB3⟩:=B3.out
  obtain ⟨lB4,cB4,fB4⟩:=B4.out
  obtain ⟨lB6,cB6,fB6⟩:=B6.out
  go_wp2_with fail
  clear lB3 cB3 fB3 lB4 cB4 fB4 lB6 cB6 fB6
  have hO_:=((((((((Only.set w2 (w.heap.size+1+1) 0 (.int .i64 6)).put 1 (.int .i64 0)).put 2 (.int .i64 0)).put 3 (.slice none 0 0)).put 4 (.slice none 0 0)).put 5 (.int .i64 0)).put 6 (.int .i64 0)).put 7 (.slice none 0 0))
  replace B3:=h! (B3.out.only hO_ (by first | assumption | (simp;done) | omega))
  replace B4:=h! (B4.out.only hO_ (by first | assumption | (simp;done) | omega))
  replace HW:=h! (hO_.2.2 HW.out (by first | assumption | omega | (have:=HW.out.size;omega) | (simp;done) | (simp;omega)))
  replace B6:=h! (Box.to (A':=#[(.int .i64 6),(.int .i64 0),(.int .i64 0),(.slice none 0 0),(.slice none 0 0),(.int .i64 0),(.int .i64 0),(.slice none 0 0)]) ((((((((B6.out.set 0 (.int .i64 6)).set 1 (.int .i64 0)).set 2 (.int .i64 0)).set 3 (.slice none 0 0)).set 4 (.slice none 0 0)).set 5 (.int .i64 0)).set 6 (.int .i64 0)).set 7 (.slice none 0 0)) (by first | rfl | simp))
  clear hO_
  generalize ((((((((w2.setCell ⟨w.heap.size+1+1,0,none⟩ (.int .i64 6)).setCell ⟨w.heap.size+1+1,1,none⟩ (.int .i64 0)).setCell ⟨w.heap.size+1+1,2,none⟩ (.int .i64 0)).setCell ⟨w.heap.size+1+1,3,none⟩ (.slice none 0 0)).setCell ⟨w.heap.size+1+1,4,none⟩ (.slice none 0 0)).setCell ⟨w.heap.size+1+1,5,none⟩ (.int .i64 0)).setCell ⟨w.heap.size+1+1,6,none⟩ (.int .i64 0)).setCell ⟨w.heap.size+1+1,7,none⟩ (.slice none 0 0))=wz at *
  obtain ⟨lB3,cB3,fB3⟩:=B3.out
  obtain ⟨lB4,cB4,fB4⟩:=B4.out
  obtain ⟨lB6,cB6,fB6⟩:=B6.out
  refine bodyPost_ret (v:=.agg #[.int .i64 6,.int .i64 0,.int .i64 0,.slice none 0 0,.slice none 0 0,.int .i64 0,.int .i64 0,.slice none 0 0]) (by simp [results,Tryz.results14,go_sem, *]) rfl ⟨_,_,rfl,.inl ⟨rfl,HNO.out⟩,tA _,HW.out⟩
 obtain ⟨hc0,hF⟩:=hk.1 rfl
 by_cases hneg:fuel < 0
 ·have ht:decide (fuel < 0)=true:=by simpa using hneg
  have HNO:Hid (¬ (eL f=0/\fM f 0 0/\0 <= fuel)):=h! (fun h=>by have:=h.2.2;omega)
  clear hk hc0 hF hneg
  clear lB3 cB3 fB3 lB4 cB4 fB4 lB6 cB6 fB6
  replace B3:=h! (B3.out.later hb)
  replace B4:=h! (B4.out.later hb)
  replace B6:=h! (B6.out.later hb)
  replace HW:=h! (HW.out.trans (hb.mono HW.out.size))
  clear hb
  obtain ⟨lB3,cB3,fB3⟩:=B3.out
  obtain ⟨lB4,cB4,fB4⟩:=B4.out
  obtain ⟨lB6,cB6,fB6⟩:=B6.out
  go_wp2_with fail
  clear lB3 cB3 fB3 lB4 cB4 fB4 lB6 cB6 fB6
  have hO_:=((((((((Only.set w2 (w.heap.size+1+1) 0 (.int .i64 6)).put 1 (.int .i64 0)).put 2 (.int .i64 0)).put 3 (.slice none 0 0)).put 4 (.slice none 0 0)).put 5 (.int .i64 0)).put 6 (.int .i64 0)).put 7 (.slice none 0 0))
  replace B3:=h! (B3.out.only hO_ (by first | assumption | (simp;done) | omega))
  replace B4:=h! (B4.out.only hO_ (by first | assumption | (simp;done) | omega))
  replace HW:=h! (hO_.2.2 HW.out (by first | assumption | omega | (have:=HW.out.size;omega) | (simp;done) | (simp;omega)))
  replace B6:=h! (Box.to (A':=#[(.int .i64 6),(.int .i64 0),(.int .i64 0),(.slice none 0 0),(.slice none 0 0),(.int .i64 0),(.int .i64 0),(.slice none 0 0)]) ((((((((B6.out.set 0 (.int .i64 6)).set 1 (.int .i64 0)).set 2 (.int .i64 0)).set 3 (.slice none 0 0)).set 4 (.slice none 0 0)).set 5 (.int .i64 0)).set 6 (.int .i64 0)).set 7 (.slice none 0 0)) (by first | rfl | simp))
  clear hO_
  generalize ((((((((w2.setCell ⟨w.heap.size+1+1,0,none⟩ (.int .i64 6)).setCell ⟨w.heap.size+1+1,1,none⟩ (.int .i64 0)).setCell ⟨w.heap.size+1+1,2,none⟩ (.int .i64 0)).setCell ⟨w.heap.size+1+1,3,none⟩ (.slice none 0 0)).setCell ⟨w.heap.size+1+1,4,none⟩ (.slice none 0 0)).setCell ⟨w.heap.size+1+1,5,none⟩ (.int .i64 0)).setCell ⟨w.heap.size+1+1,6,none⟩ (.int .i64 0)).setCell ⟨w.heap.size+1+1,7,none⟩ (.slice none 0 0))=wz at *
  obtain ⟨lB3,cB3,fB3⟩:=B3.out
  obtain ⟨lB4,cB4,fB4⟩:=B4.out
  obtain ⟨lB6,cB6,fB6⟩:=B6.out
  refine bodyPost_ret (v:=.agg #[.int .i64 6,.int .i64 0,.int .i64 0,.slice none 0 0,.slice none 0 0,.int .i64 0,.int .i64 0,.slice none 0 0]) (by simp [results,Tryz.results14,go_sem, *]) rfl ⟨_,_,rfl,.inl ⟨rfl,HNO.out⟩,tA _,HW.out⟩
 have ht:decide (fuel < 0)=false:=by simpa using hneg
 have ht2:decide (200000 < fuel)=false:=by simp;omega
 obtain ⟨fl,rfl⟩ : ∃ fl:Nat,fuel=fl:=⟨fuel.toNat,by omega⟩
 have HCH:=h! hc0
 have HFR:=h! hF
 have HFL:Hid ((min (fl:Int) 200000).toNat=fl/\fl <= 200000):=h! (by omega)
 have hh:=(gW.1 hc0).1
 unfold iH at hh
 simp only [aN,decide_eq_true_eq] at hh
 obtain ⟨⟨⟨⟨⟨⟨⟨hp16,ha0⟩,ha8⟩,hc1⟩,hc64⟩,hb1⟩,hb512⟩, -⟩:=hh
 rw [<-HDIM.out.2.1] at ha0 ha8
 rw [<-HDIM.out.2.2.1] at hc1 hc64
 rw [<-HDIM.out.1] at hp16
 rw [<-HDIM.out.2.2.2.1] at hb1 hb512
 obtain ⟨cn,rfl⟩ : ∃ cn:Nat,ce=cn:=⟨ce.toNat,by omega⟩
 obtain ⟨an,rfl⟩ : ∃ an:Nat,ar=an:=⟨ar.toNat,by omega⟩
 clear hk hc0 hF hneg hmax
 clear lB3 cB3 fB3 lB4 cB4 fB4 lB6 cB6 fB6
 replace B3:=h! (B3.out.later hb)
 replace B4:=h! (B4.out.later hb)
 replace B6:=h! (B6.out.later hb)
 replace HW:=h! (HW.out.trans (hb.mono HW.out.size))
 clear hb
 obtain ⟨lB3,cB3,fB3⟩:=B3.out
 obtain ⟨lB4,cB4,fB4⟩:=B4.out
 obtain ⟨lB6,cB6,fB6⟩:=B6.out
 --@B
 go_wp2_with fail
 refine (aDC (HV.out.below HW.out) (eS HCH.out).1).mono ?_
 rintro e w3 ⟨hb3,⟨hno, -⟩ | ⟨-,u,S,rfl,hN,hS⟩⟩
 ·exact absurd (eS HCH.out).2 (by rw [hno];simp)
 obtain ⟨ia,ic,hue⟩:=hN.ints.form
 obtain ⟨il,hil⟩ : ∃ il,il=S.length:=⟨_,rfl⟩
 rw [<-hil] at hue
 subst hue
 have HIV:=h! hN.ints
 have HRI:=h! hS.rise
 have HMEM:Hid (∀ id,id ∈ S ↔ id ∈ (eR f).map (·.1)):=h! (fun id=>by have h9:=hS.mem id;rwa [cM] at h9)
 have HIL:=h! hil
 have hil8:il <= 8192:=by rw [hil,hS.len];have:=oA (eS HCH.out).1;omega
 have HFRONT:Hid (∀ k:Nat,k < np -> S[k]? = some (k:Int)):=h! (xH HRI.out (fun x hx=>tO (eS HCH.out).2 ((HMEM.out x).1 hx)) (fun k hk=>(HMEM.out _).2 (aGV (by rw [<-HDIM.out.1];exact hk))))
 clear hN hS hil ht ht2
 clear lB3 cB3 fB3 lB4 cB4 fB4 lB6 cB6 fB6
 replace B3:=h! (B3.out.later hb3)
 replace B4:=h! (B4.out.later hb3)
 replace B6:=h! (B6.out.later hb3)
 replace HW:=h! (HW.out.trans (hb3.mono HW.out.size))
 clear hb3
 obtain ⟨lB3,cB3,fB3⟩:=B3.out
 obtain ⟨lB4,cB4,fB4⟩:=B4.out
 obtain ⟨lB6,cB6,fB6⟩:=B6.out
 have H3B:Hid (Below w3.heap.size w3 w3):=h! (Below.refl _ _)
 have hw36:w.heap.size+1+1 < w3.heap.size:=B6.out.lt
 obtain ⟨W3,hW3⟩ : ∃ W3,W3=w3:=⟨_,rfl⟩
 have HE3:Hid (eQ gF 6 W3 (.slice ab nb cb) f.blocks):=h! (by
  obtain ⟨q1,q2,hq, -, -, -,hq2⟩:=HV.out.below HW.out
  simp at hq
  obtain ⟨-, -, -,rfl⟩:=hq
  rw [hW3];exact hq2)
 have HIV3:Hid (Ints W3 (.slice ia il ic) S):=h! (by rw [hW3];exact HIV.out)
 have hmk:=run_make_row' (P:=Tryz.prog) 22 3 (.int .i64 0) 8 Tryz.underlying22 qL rfl .i64 .i64 il (by omega) (by omega)
 have hmk2:=run_make_row' (P:=Tryz.prog) 22 3 (.int .i64 0) 8 Tryz.underlying22 qL rfl .i64 .i64 cn (by omega) (by omega)
 --@C
 go_upto_region 6 with (fail)
 refine Seven.wp_region_grow 12 (fun _=>none) (fun ν kz=>match kz with | 5=>.holds (fun u φ w' => ∃ g,u = .slice (some ⟨g,0,none⟩) il il/\(∀ k, φ k ↔ k=g)/\eM w' (Foot.one g) u (List.replicate il 0)) | 8=>.holds (fun u φ w' => ∃ g,u = .slice (some ⟨g,0,none⟩) cn cn/\(∀ k, φ k ↔ k=g)/\eM w' (Foot.one g) u (List.replicate cn 0)) | 9=>.holds (fun u φ w' => ∃ g5 g8,(ν 5).1 = .slice (some ⟨g5,0,none⟩) il il/\(ν 8).1 = .slice (some ⟨g8,0,none⟩) cn cn/\u = .agg #[.slice ap np cp,.int .i64 an,.int .i64 cn,.slice ab nb cb,.int .i64 0,.int .i64 0,.int .i64 0,.slice none 0 0,.slice none 0 0,.int .i64 0,.int .i64 0,.slice none 0 0,.int .i64 fl,.slice ia il ic,.slice (some ⟨g5,0,none⟩) il il,.slice (some ⟨g8,0,none⟩) cn cn,.bool false]) | 10=>.holds (fun u φ w' => ∃ g g5 g8,u = .pointer (some ⟨g,0,none⟩)/\(∀ k, φ k ↔ k=g)/\(ν 9).1 = .agg #[.slice ap np cp,.int .i64 an,.int .i64 cn,.slice ab nb cb,.int .i64 0,.int .i64 0,.int .i64 0,.slice none 0 0,.slice none 0 0,.int .i64 0,.int .i64 0,.slice none 0 0,.int .i64 fl,.slice ia il ic,.slice (some ⟨g5,0,none⟩) il il,.slice (some ⟨g8,0,none⟩) cn cn,.bool false]/\Box w' g #[.slice ap np cp,.int .i64 an,.int .i64 cn,.slice ab nb cb,.int .i64 0,.int .i64 0,.int .i64 0,.slice none 0 0,.slice none 0 0,.int .i64 0,.int .i64 0,.slice none 0 0,.int .i64 fl,.slice ia il ic,.slice (some ⟨g5,0,none⟩) il il,.slice (some ⟨g8,0,none⟩) cn cn,.bool false]) | _=>.plain) (by kernel_rfl) (by kernel_rfl) ?_ ?_ ?_ (fun ν => ?_)
 ·(intro ν k;(try dsimp only);split <;> first | exact True.intro | (intro u φ w1 w2 D hu ho hoff hDb hlt hn;first | exact Seven.MadeS.off hu ho hoff | (first | exact hu | (obtain ⟨g,e,hφ,h⟩:=hu;exact ⟨g,e,hφ,h.off ho (fun k hk=>hoff k ((hφ k).2 hk))⟩) | (obtain ⟨g,g5,g8,e,hφ,e9,h⟩:=hu;exact ⟨g,g5,g8,e,hφ,e9,h.off ho (hoff g ((hφ g).2 rfl))⟩))))
 ·(intro ν ν' k h;first | rfl | ((try dsimp only);split <;> first | rfl | (rw [h 5 (by kernel_rfl),h 8 (by kernel_rfl)]) | (rw [h 9 (by kernel_rfl)])))
 ·(intro j k h;cases h)
 simp only [aK,aR,aM,aT]
 iterate 5 (refine Seven.Grow.val (v := ?_) rfl rfl (fun wg hbg hdg => ?_) ?_;rotate_left;(focus ((obtain ⟨lg0,cg0,fg0⟩:=B3.out.later hbg);(obtain ⟨lg1,cg1,fg1⟩:=B4.out.later hbg);(obtain ⟨lg2,cg2,fg2⟩:=B6.out.later hbg);clear hbg hdg;first | (go_simp;done) | (go_simp;with_reducible rfl)));simp only [Act.put,aA,aC,aD])
 refine Seven.Grow.gives rfl (by intro h;cases h) (fun wg hbg hdg => ?_) ?_
 focus (refine ⟨.slice (some ⟨wg.heap.size,0,none⟩) il il,wg.alloc (.cells (madeCells #[.int .i64 0] il) 3), ?_,Foot.one wg.heap.size,⟨wg.heap.size,rfl,fun k=>Iff.rfl,oQ wg (by omega)⟩,Off.alloc _ _ _,fun k hk=>by cases hk;exact ⟨.inr (aF _),by simp⟩⟩;clear hbg hdg;(first | (go_simp;done) | (go_simp;with_reducible rfl)))
 simp only [Act.put,Seven.Known.val,aA,aC,aD]
 iterate 2 (refine Seven.Grow.val (v := ?_) rfl rfl (fun wg hbg hdg => ?_) ?_;rotate_left;(focus ((obtain ⟨lg0,cg0,fg0⟩:=B3.out.later hbg);(obtain ⟨lg1,cg1,fg1⟩:=B4.out.later hbg);(obtain ⟨lg2,cg2,fg2⟩:=B6.out.later hbg);clear hbg hdg;first | (go_simp;done) | (go_simp;with_reducible rfl)));simp only [Act.put,aA,aC,aD])
 refine Seven.Grow.gives rfl (by intro h;cases h) (fun wg hbg hdg => ?_) ?_
 focus (refine ⟨.slice (some ⟨wg.heap.size,0,none⟩) cn cn,wg.alloc (.cells (madeCells #[.int .i64 0] cn) 3), ?_,Foot.one wg.heap.size,⟨wg.heap.size,rfl,fun k=>Iff.rfl,oQ wg (by omega)⟩,Off.alloc _ _ _,fun k hk=>by cases hk;exact ⟨.inr (aF _),by simp⟩⟩;clear hbg hdg;(first | (go_simp;done) | (go_simp;with_reducible rfl)))
 simp only [Act.put,Seven.Known.val,aA,aC,aD]
 refine Seven.Grow.gives rfl (by intro h;cases h) (fun wg hbg hdg => ?_) ?_
 focus ((have h5:∃ g,(ν 5).1 = .slice (some ⟨g,0,none⟩) il il/\(∀ k,(ν 5).2 k ↔ k=g)/\eM wg (Foot.one g) (ν 5).1 (List.replicate il 0):=hdg.fact 5 ⟨by kernel_rfl,.inl rfl⟩);(have h8:∃ g,(ν 8).1 = .slice (some ⟨g,0,none⟩) cn cn/\(∀ k,(ν 8).2 k ↔ k=g)/\eM wg (Foot.one g) (ν 8).1 (List.replicate cn 0):=hdg.fact 8 ⟨by kernel_rfl,.inl rfl⟩);(obtain ⟨g5,e5, -, -⟩:=h5);(obtain ⟨g8,e8, -, -⟩:=h8);refine ⟨.agg #[.slice ap np cp,.int .i64 an,.int .i64 cn,.slice ab nb cb,.int .i64 0,.int .i64 0,.int .i64 0,.slice none 0 0,.slice none 0 0,.int .i64 0,.int .i64 0,.slice none 0 0,.int .i64 fl,.slice ia il ic,.slice (some ⟨g5,0,none⟩) il il,.slice (some ⟨g8,0,none⟩) cn cn,.bool false],wg, ?_,Foot.none,⟨g5,g8,e5,e8,rfl⟩,Off.refl _ _,fun _ h=>h.elim⟩;clear hbg hdg;simp only [e5,e8];(first | (go_simp;done) | (go_simp;with_reducible rfl)))
 simp only [Act.put,Seven.Known.val,aA,aC,aD]
 refine Seven.Grow.gives rfl (by intro h;cases h) (fun wg hbg hdg => ?_) ?_
 focus ((have h9:∃ g5 g8,(ν 5).1 = .slice (some ⟨g5,0,none⟩) il il/\(ν 8).1 = .slice (some ⟨g8,0,none⟩) cn cn/\(ν 9).1 = .agg #[.slice ap np cp,.int .i64 an,.int .i64 cn,.slice ab nb cb,.int .i64 0,.int .i64 0,.int .i64 0,.slice none 0 0,.slice none 0 0,.int .i64 0,.int .i64 0,.slice none 0 0,.int .i64 fl,.slice ia il ic,.slice (some ⟨g5,0,none⟩) il il,.slice (some ⟨g8,0,none⟩) cn cn,.bool false]:=hdg.fact 9 ⟨by kernel_rfl,.inl rfl⟩);(obtain ⟨g5,g8, -, -,e9⟩:=h9);refine ⟨.pointer (some ⟨wg.heap.size,0,none⟩),wg.alloc (.cells #[.slice ap np cp,.int .i64 an,.int .i64 cn,.slice ab nb cb,.int .i64 0,.int .i64 0,.int .i64 0,.slice none 0 0,.slice none 0 0,.int .i64 0,.int .i64 0,.slice none 0 0,.int .i64 fl,.slice ia il ic,.slice (some ⟨g5,0,none⟩) il il,.slice (some ⟨g8,0,none⟩) cn cn,.bool false] 83), ?_,Foot.one wg.heap.size,⟨wg.heap.size,g5,g8,rfl,fun k=>Iff.rfl,e9,Box.new _ _ _⟩,Off.alloc _ _ _,fun k hk=>by cases hk;exact ⟨.inr (aF _),by simp⟩⟩;clear hbg hdg;simp only [e9];(first | (go_simp;done) | (go_simp;with_reducible rfl)))
 simp only [Act.put,Seven.Known.val,aA,aC,aD]
 refine Seven.Grow.val (v := ?_) rfl rfl (fun wg hbg hdg => ?_) ?_
 rotate_left
 focus ((obtain ⟨lg0,cg0,fg0⟩:=B3.out.later hbg);(obtain ⟨lg1,cg1,fg1⟩:=B4.out.later hbg);(obtain ⟨lg2,cg2,fg2⟩:=B6.out.later hbg);clear hbg hdg;first | (go_simp;done) | (go_simp;with_reducible rfl))
 simp only [Act.put,aA,aC,aD]
 intro wg hb hf
 clear lB3 cB3 fB3 lB4 cB4 fB4 lB6 cB6 fB6
 have hbv:=hb
 replace B3:=h! (B3.out.later hb)
 replace B4:=h! (B4.out.later hb)
 replace B6:=h! (B6.out.later hb)
 replace HW:=h! (HW.out.trans (hb.mono HW.out.size))
 clear hb
 obtain ⟨lB3,cB3,fB3⟩:=B3.out
 obtain ⟨lB4,cB4,fB4⟩:=B4.out
 obtain ⟨lB6,cB6,fB6⟩:=B6.out
 simp only [bH,Nat.reduceAdd]
 clear hmk hmk2
 have h5:∃ g,(ν 5).1 = .slice (some ⟨g,0,none⟩) il il/\(∀ k,(ν 5).2 k ↔ k=g)/\eM wg (Foot.one g) (ν 5).1 (List.replicate il 0):=hf.fact 5 ⟨by omega,rfl⟩
 have h8:∃ g,(ν 8).1 = .slice (some ⟨g,0,none⟩) cn cn/\(∀ k,(ν 8).2 k ↔ k=g)/\eM wg (Foot.one g) (ν 8).1 (List.replicate cn 0):=hf.fact 8 ⟨by omega,rfl⟩
 have h9:∃ g5 g8,(ν 5).1 = .slice (some ⟨g5,0,none⟩) il il/\(ν 8).1 = .slice (some ⟨g8,0,none⟩) cn cn/\(ν 9).1 = .agg #[.slice ap np cp,.int .i64 an,.int .i64 cn,.slice ab nb cb,.int .i64 0,.int .i64 0,.int .i64 0,.slice none 0 0,.slice none 0 0,.int .i64 0,.int .i64 0,.slice none 0 0,.int .i64 fl,.slice ia il ic,.slice (some ⟨g5,0,none⟩) il il,.slice (some ⟨g8,0,none⟩) cn cn,.bool false]:=hf.fact 9 ⟨by omega,rfl⟩
 have h10:∃ g g5 g8,(ν 10).1 = .pointer (some ⟨g,0,none⟩)/\(∀ k,(ν 10).2 k ↔ k=g)/\(ν 9).1 = .agg #[.slice ap np cp,.int .i64 an,.int .i64 cn,.slice ab nb cb,.int .i64 0,.int .i64 0,.int .i64 0,.slice none 0 0,.slice none 0 0,.int .i64 0,.int .i64 0,.slice none 0 0,.int .i64 fl,.slice ia il ic,.slice (some ⟨g5,0,none⟩) il il,.slice (some ⟨g8,0,none⟩) cn cn,.bool false]/\Box wg g #[.slice ap np cp,.int .i64 an,.int .i64 cn,.slice ab nb cb,.int .i64 0,.int .i64 0,.int .i64 0,.slice none 0 0,.slice none 0 0,.int .i64 0,.int .i64 0,.slice none 0 0,.int .i64 fl,.slice ia il ic,.slice (some ⟨g5,0,none⟩) il il,.slice (some ⟨g8,0,none⟩) cn cn,.bool false]:=hf.fact 10 ⟨by omega,rfl⟩
 obtain ⟨gx,e5,hφ5,k5⟩:=h5
 obtain ⟨gc,e8,hφ8,k8⟩:=h8
 obtain ⟨g5,g8,q5,q8,e9⟩:=h9
 obtain rfl:gx=g5:=by rw [e5] at q5;injection q5 with q;injection q with q;injection q
 obtain rfl:gc=g8:=by rw [e8] at q8;injection q8 with q;injection q with q;injection q
 obtain ⟨bBR,g5,g8,e10,hφBR,q9,hXBR⟩:=h10
 rw [e9] at q9
 simp only [Value.agg.injEq,Array.mk.injEq,List.cons.injEq,Value.slice.injEq,Option.some.injEq,Addr.mk.injEq,and_true,true_and] at q9
 obtain ⟨rfl,rfl⟩:=q9
 have BR:=h! hXBR
 have n58:gx ≠ gc:=fun e=>hf.apart 5 8 ⟨by omega,rfl⟩ ⟨by omega,rfl⟩ (by omega) gx ((hφ5 _).2 rfl) ((hφ8 _).2 e)
 have n5R:gx ≠ bBR:=fun e=>hf.apart 5 10 ⟨by omega,rfl⟩ ⟨by omega,rfl⟩ (by omega) gx ((hφ5 _).2 rfl) ((hφBR _).2 e)
 have n8R:gc ≠ bBR:=fun e=>hf.apart 8 10 ⟨by omega,rfl⟩ ⟨by omega,rfl⟩ (by omega) gc ((hφ8 _).2 rfl) ((hφBR _).2 e)
 have b5:w3.heap.size <= gx:=hf.base 5 gx ⟨by omega,rfl⟩ ((hφ5 _).2 rfl)
 have b8:w3.heap.size <= gc:=hf.base 8 gc ⟨by omega,rfl⟩ ((hφ8 _).2 rfl)
 have bR:w3.heap.size <= bBR:=hf.base 10 bBR ⟨by omega,rfl⟩ ((hφBR _).2 rfl)
 rw [e5] at k5
 rw [e8] at k8
 simp only [e5,e8,e9,e10]
 have l5:gx < wg.heap.size:=k5.lt gx rfl
 have l8:gc < wg.heap.size:=k8.lt gc rfl
 have K5:=h! k5
 have K8:=h! k8
 have HB3:Hid (Below W3.heap.size W3 wg):=h! (by rw [hW3];exact hbv)
 rw [<-hW3] at b5 b8 bR
 have hw3p:w.heap.size+3 <= W3.heap.size:=by rw [hW3];omega
 clear hf e5 e8 e9 e10 q5 q8 hφ5 hφ8 k5 k8 hφBR hXBR hW3 H3B HIV hw36
 have lBR:bBR < wg.heap.size:=BR.out.lt
 --@D
 obtain ⟨c,hc⟩ : ∃ c:RefC,c=⟨W3.heap.size,fl,.slice ap np cp,.slice ab nb cb,.slice ia il ic,an,cn,S⟩:=⟨_,rfl⟩
 go_upto_region 8 with (at_make;refine gE rfl _ _ 22 3 rfl mA nb rfl rfl rfl rfl (by omega) ?_;intro w7 hblk hgr;have hBR9:=BR.out.later hgr;obtain ⟨lx9,cx9,fx9⟩:=hBR9)
 clear lx9 cx9 fx9
 obtain ⟨gv,hgv⟩ : ∃ gv,gv=wg.heap.size:=⟨_,rfl⟩
 have nvx:gx < gv:=by omega
 have nvc:gc < gv:=by omega
 have nvR:bBR < gv:=by rw [hgv];exact lBR
 rw [<-hgv] at hblk ⊢
 have hgv7:gv < w7.heap.size:=(aS.1 hblk.out).1
 have bv:W3.heap.size <= gv:=by omega
 replace K5:=h! (K5.out.off (Off.of_below hgr Foot.none) (fun _ _ h=>h))
 replace K8:=h! (K8.out.off (Off.of_below hgr Foot.none) (fun _ _ h=>h))
 replace HB3:=h! (HB3.out.trans (hgr.mono HB3.out.size))
 clear hgv
 replace BR:=h! (BR.out.later hgr)
 clear lB3 cB3 fB3 lB4 cB4 fB4 lB6 cB6 fB6
 replace B3:=h! (B3.out.later hgr)
 replace B4:=h! (B4.out.later hgr)
 replace B6:=h! (B6.out.later hgr)
 replace HW:=h! (HW.out.trans (hgr.mono HW.out.size))
 clear hgr
 obtain ⟨lB3,cB3,fB3⟩:=B3.out
 obtain ⟨lB4,cB4,fB4⟩:=B4.out
 obtain ⟨lB6,cB6,fB6⟩:=B6.out
 have hofs:=Off.set w7 ⟨bBR,11,none⟩ (.slice (some ⟨gv,0,none⟩) nb nb)
 have HMC:Hid (RefP c (w7.setCell ⟨bBR,11,none⟩ (.slice (some ⟨gv,0,none⟩) nb nb)) bBR (eY f i 0 0) ⟨0,0,0⟩ false (.slice none 0 0) (.slice none 0 0) (.slice (some ⟨gv,0,none⟩) nb nb) (.slice (some ⟨gx,0,none⟩) il il) (.slice (some ⟨gc,0,none⟩) cn cn) (aCA bBR gv gx gc)):=h! (by
  rw [hc]
  exact RefP.made HDIM.out.2.2.2.1 HDIM.out.2.2.1 HIL.out (BR.out.set 11 _) ((lY hblk.out (by omega)).off hofs (fun k h e=>absurd ((show k=gv from h).symm.trans (show k=bBR from e)) (by omega))) (K5.out.off hofs (fun k h e=>absurd ((show k=gx from h).symm.trans (show k=bBR from e)) n5R)) (K8.out.off hofs (fun k h e=>absurd ((show k=gc from h).symm.trans (show k=bBR from e)) n8R)) ⟨bR,bv,b5,b8,by omega,Ne.symm n5R,Ne.symm n8R,by omega,by omega,n58⟩)
 have HEV:Hid (EnvR c f (w7.setCell ⟨bBR,11,none⟩ (.slice (some ⟨gv,0,none⟩) nb nb))):=h! (by
  rw [hc]
  exact ⟨W3,rfl,HB3.out.setCell (p:=⟨bBR,11,none⟩) bR _,HE3.out,HIV3.out⟩)
 have HC:=h! (show c.fuel=fl/\c.base=W3.heap.size/\c.ids=S by rw [hc];exact ⟨rfl,rfl,rfl⟩)
 clear lB3 cB3 fB3 lB4 cB4 fB4 lB6 cB6 fB6
 have B38:=h! (B3.out.off hofs (fun e=>absurd (show w.heap.size=bBR from e) (by omega)))
 have B48:=h! (B4.out.off hofs (fun e=>absurd (show w.heap.size+1=bBR from e) (by omega)))
 have B68:=h! (B6.out.off hofs (fun e=>absurd (show w.heap.size+1+1=bBR from e) (by omega)))
 have HW8:Hid (Below w.heap.size w (w7.setCell ⟨bBR,11,none⟩ (.slice (some ⟨gv,0,none⟩) nb nb))):=h! (HW.out.trans (hofs.below HW.out.size (fun k _ h=>by have h9:k=bBR:=h;omega)))
 clear hblk K5 K8 hofs hc n5R n8R n58 nvx nvc nvR hgv7 bv HB3 HE3 HIV3 BR HW B3 B4 B6 lBR
 generalize w7.setCell ⟨bBR,11,none⟩ (.slice (some ⟨gv,0,none⟩) nb nb)=w8 at *
 have HW:=HW8
 have B3:=B38
 have B4:=B48
 have B6:=B68
 clear HW8 B38 B48 B68
 --@E
 obtain ⟨F,hFm⟩ : ∃ F,F=aCA bBR gv gx gc:=⟨_,rfl⟩
 have HF4:Hid (∀ k,F 4 k ↔ k=gx):=h! (by rw [hFm];exact fun k=>Iff.rfl)
 rw [<-hFm] at HMC
 clear hFm
 have hgx8:gx < w8.heap.size:=HMC.out.lt ((HF4.out gx).2 rfl)
 obtain ⟨bq,hbq⟩ : ∃ bq,bq=bBR:=⟨_,rfl⟩
 rw [<-hbq] at HMC ⊢
 rw [<-hbq] at bR
 clear hbq
 have HW8:=HW
 have B38:=B3
 have B48:=B4
 have B68:=B6
 have HRS:Hid (Rise c.ids/\(∀ k:Nat,k < np -> c.ids[k]? = some (k:Int))/\np <= il/\(∀ id,id ∈ (eR f).map (·.1) -> id ∈ c.ids)):=h! (by
  rw [HC.out.2.2]
  refine ⟨HRI.out,HFRONT.out, ?_,fun id h=>(HMEM.out id).2 h⟩
  rcases Nat.eq_zero_or_pos np with hz | hz
  ·omega
  have:=(aE.1 (HFRONT.out (np - 1) (by omega))).1
  rw [HIL.out];omega)
 have hnpil:=HRS.out.2.2.1
 obtain ⟨lB3,cB3,fB3⟩:=B3.out
 obtain ⟨lB4,cB4,fB4⟩:=B4.out
 obtain ⟨lB6,cB6,fB6⟩:=B6.out
 go_wp2_with fail
 clear lB3 cB3 fB3 lB4 cB4 fB4 lB6 cB6 fB6
 go_loopw [10] (fun iv wr => ∃ k:Nat,k <= np/\k <= la/\iv = .int .i64 k/\RefP c wr bq (eY f i k 0) ⟨0,0,0⟩ false (.slice none 0 0) (.slice none 0 0) (.slice (some ⟨gv,0,none⟩) nb nb) (.slice (some ⟨gx,0,none⟩) il il) (.slice (some ⟨gc,0,none⟩) cn cn) F/\Off (Foot.one gx) w8 wr) (fun iv _=>np - (intOf iv).toNat)
 case atStart=>exact ⟨0,aP _,aP _,rfl,HMC.out,Off.refl _ _⟩
 obtain ⟨k,hk,hkla,rfl,hmp,hof⟩:=hrel
 clear HW B3 B4 B6 HMC
 have HPK:=h! hmp
 have HOF:Hid (OffF (Foot.one gx) w8 wr):=h! hof
 have HW:Hid (Below w.heap.size w wr):=h! (HW8.out.trans (hof.below HW8.out.size (fun k _ h=>by have h9:k=gx:=h;omega)))
 have B3:=h! (B38.out.off hof (fun e=>absurd (show w.heap.size=gx from e) (by omega)))
 have B4:=h! (B48.out.off hof (fun e=>absurd (show w.heap.size+1=gx from e) (by omega)))
 have B6:=h! (B68.out.off hof (fun e=>absurd (show w.heap.size+1+1=gx from e) (by omega)))
 clear hmp hof
 obtain ⟨lB3,cB3,fB3⟩:=B3.out
 obtain ⟨lB4,cB4,fB4⟩:=B4.out
 obtain ⟨lB6,cB6,fB6⟩:=B6.out
 by_cases hlt:k < np/\k < la
 ·obtain ⟨hkn,hka⟩:=hlt
  obtain ⟨pb,po,pc,hpe,hpbl,hpx⟩:=fK HP.out (by have:=HDIM.out.1;omega)
  rw [<-HDIM.out.1] at hpe hpx
  injection hpe with e1 e2 e3
  subst e1
  subst e3
  obtain ⟨ty,hty⟩ : ∃ ty,ty=f.params.getD k 0:=⟨_,rfl⟩
  have hpc:=(HW.out.cell (p:=⟨pb,po+k,none⟩) hpbl).trans (hpx k hkn)
  rw [<-hty] at hpc
  clear e2
  obtain ⟨b5,o5,c5,he5,hb5,hx5⟩:=fK HUA.out (by have:=HDIM.out.2.2.2.2.1;omega)
  rw [<-HDIM.out.2.2.2.2.1] at he5 hx5
  injection he5 with e1 e2 e3
  subst e1
  subst e3
  obtain ⟨z,hz⟩ : ∃ z,z=i.args.getD k 0:=⟨_,rfl⟩
  have HX5:Hid (w.cell? ⟨b5,o5+k,none⟩=some (.int .i64 z)):=h! (by rw [hz];exact hx5 k hka)
  have HZ64:Hid (In64 z):=h! (by rw [hz];exact HUA.out.getD k)
  have HARG:Hid (argI f i.args k=if ty=2 then iT (z != 0) else z):=h! (by rw [aBH (by have:=HDIM.out.1;omega) (by have:=HDIM.out.2.2.2.2.1;omega),hty,hz])
  have HJ:=h! (HRS.out.2.1 k hkn)
  have hkil:k < il:=by omega
  have HZR:=h! ((HW.out.cell (p:=⟨b5,o5+k,none⟩) hb5).trans HX5.out)
  have hb5r:b5 < wr.heap.size:=aL hb5 HW.out.size
  have HPCW:Hid (w.cell? ⟨pb,po+k,none⟩=some (.int .i64 ty)):=h! (by rw [hty];exact hpx k hkn)
  clear e2 hx5 hz hty hpx
  --@F
  go_upto_region 11 with (fail)
  clear hpc
  refine wp_region_grow 11 (fun _=>.plain) (by kernel_rfl) (by kernel_rfl) ?_ (fun ν => ?_)
  ·exact fun _=>trivial
  simp only [aK,aR,aM,aT]
  iterate 11 (refine Grow.val (v := ?_) rfl rfl (fun wg hbg hdg => ?_) ?_;rotate_left;(focus ((obtain ⟨lg0,cg0,fg0⟩:=B3.out.later hbg);(obtain ⟨lg1,cg1,fg1⟩:=B4.out.later hbg);(obtain ⟨lg2,cg2,fg2⟩:=B6.out.later hbg);(obtain ⟨xl1,xc1,xf1⟩:=(HPK.out.later hbg).box;have q14:wg.cell? ⟨bq,14,none⟩=some (.slice (some ⟨gx,0,none⟩) il il):=xc1 14;clear xc1 xf1;have hzg:=(hbg.cell (p:=⟨b5,o5+k,none⟩) hb5r).trans HZR.out);clear hbg hdg;first | (go_simp;done) | (go_simp;with_reducible rfl)));simp only [Act.put,aA,aC,aD])
  intro wg hb hf hap
  clear hap
  clear lB3 cB3 fB3 lB4 cB4 fB4 lB6 cB6 fB6
  replace B3:=h! (B3.out.later hb)
  replace B4:=h! (B4.out.later hb)
  replace B6:=h! (B6.out.later hb)
  replace HPK:=h! (HPK.out.later hb)
  replace HOF:=h! (HOF.out.later hb)
  replace HW:=h! (HW.out.trans (hb.mono HW.out.size))
  clear hb
  obtain ⟨lB3,cB3,fB3⟩:=B3.out
  obtain ⟨lB4,cB4,fB4⟩:=B4.out
  obtain ⟨lB6,cB6,fB6⟩:=B6.out
  clear hf
  have HPC2:=h! ((HW.out.cell (p:=⟨pb,po+k,none⟩) hpbl).trans HPCW.out)
  have hpbg:pb < wg.heap.size:=aL hpbl HW.out.size
  obtain ⟨gx2,cx2,hx2,hFx2,hgx2,hcx2,hfx2,hset⟩:=HPK.out.setv HRS.out.1 HJ.out HZ64.out
  obtain rfl:gx=gx2:=by injection hx2 with h;injection h with h;injection h
  have HPS:=h! hset
  have hofs:=Off.set wg ⟨gx,k,none⟩ (.int .i64 z)
  have HOS:Hid (OffF (Foot.one gx) w8 (wg.setCell ⟨gx,k,none⟩ (.int .i64 z))):=h! (Off.trans HOF.out hofs)
  have B39:=h! (B3.out.off hofs (fun e=>absurd (show w.heap.size=gx from e) (by omega)))
  have B49:=h! (B4.out.off hofs (fun e=>absurd (show w.heap.size+1=gx from e) (by omega)))
  have B69:=h! (B6.out.off hofs (fun e=>absurd (show w.heap.size+1+1=gx from e) (by omega)))
  have HW9:Hid (Below w.heap.size w (wg.setCell ⟨gx,k,none⟩ (.int .i64 z))):=h! (HW.out.trans (hofs.below HW.out.size (fun k _ h=>by have h9:k=gx:=h;omega)))
  have hpc9:=(hofs.cell2 (p:=⟨pb,po+k,none⟩) hpbg (fun e=>absurd (show pb=gx from e) (by omega))).trans HPC2.out
  clear lB3 cB3 fB3 lB4 cB4 fB4 lB6 cB6 fB6
  clear hset hx2 hFx2 hofs HPK HOF HW B3 B4 B6 HPC2 HZR
  --@G
  go_upto_region 12 with (fail)
  clear hcx2 hfx2 hgx2
  have HW:=HW9
  have B3:=B39
  have B4:=B49
  have B6:=B69
  clear HW9 B39 B49 B69
  have HZR:=h! ((HW.out.cell (p:=⟨b5,o5+k,none⟩) hb5).trans HX5.out)
  generalize wg.setCell ⟨gx,k,none⟩ (.int .i64 z)=w9 at *
  have hb5q:b5 < w9.heap.size:=aL hb5 HW.out.size
  obtain ⟨lB3,cB3,fB3⟩:=B3.out
  obtain ⟨lB4,cB4,fB4⟩:=B4.out
  obtain ⟨lB6,cB6,fB6⟩:=B6.out
  by_cases hty2:ty=2
  ·have hq:(ty == 2)=true:=by simpa using hty2
   go_upto_region 13 with (fail)
   clear hpc9 hq
   refine wp_region_grow 13 (fun kz=>match kz with | 11=>.const (.int .i64 (iT (z != 0))) | _=>.plain) (by kernel_rfl) (by kernel_rfl) ?_ (fun ν => ?_)
   ·(intro k;(try dsimp only);split <;> first | exact True.intro | (intro u w1 w2 hu hb;exact hu.below hb))
   simp only [aK,aR,aM,aT]
   iterate 11 (refine Grow.val (v := ?_) rfl rfl (fun wg hbg hdg => ?_) ?_;rotate_left;(focus ((obtain ⟨lg0,cg0,fg0⟩:=B3.out.later hbg);(obtain ⟨lg1,cg1,fg1⟩:=B4.out.later hbg);(obtain ⟨lg2,cg2,fg2⟩:=B6.out.later hbg);(obtain ⟨xl1,xc1,xf1⟩:=(HPS.out.later hbg).box;have q14:wg.cell? ⟨bq,14,none⟩=some (.slice (some ⟨gx,0,none⟩) il il):=xc1 14;clear xc1 xf1;have hzg:=(hbg.cell (p:=⟨b5,o5+k,none⟩) hb5q).trans HZR.out);clear hbg hdg;first | (go_simp;done) | (go_simp;with_reducible rfl)));simp only [Act.put,aA,aC,aD])
   refine Grow.call (f := ?_) (args := ?_) rfl (fun wg => ?_) (fun wg hbg hdg => ?_) ?_
   rotate_left 2
   focus (first | (go_simp;done) | (go_simp;refine And.intro ?_ ?_ <;> with_reducible rfl) | (go_simp;with_reducible rfl))
   focus exact Calls.mono (bitC (z != 0)) (fun e w2 ⟨he,hb2⟩=>⟨_,he,rfl,hb2⟩)
   simp only [Act.put,Known.val,aA,aC,aD]
   refine Grow.val (v := ?_) rfl rfl (fun wg hbg hdg => ?_) ?_
   rotate_left
   focus ((obtain ⟨lg0,cg0,fg0⟩:=B3.out.later hbg);(obtain ⟨lg1,cg1,fg1⟩:=B4.out.later hbg);(obtain ⟨lg2,cg2,fg2⟩:=B6.out.later hbg);(obtain ⟨xl1,xc1,xf1⟩:=(HPS.out.later hbg).box;have q14:wg.cell? ⟨bq,14,none⟩=some (.slice (some ⟨gx,0,none⟩) il il):=xc1 14;clear xc1 xf1;have hzg:=(hbg.cell (p:=⟨b5,o5+k,none⟩) hb5q).trans HZR.out);clear hbg hdg;first | (go_simp;done) | (go_simp;with_reducible rfl))
   simp only [Act.put,aA,aC,aD]
   intro wg hb hf hap
   clear hap
   clear lB3 cB3 fB3 lB4 cB4 fB4 lB6 cB6 fB6
   replace B3:=h! (B3.out.later hb)
   replace B4:=h! (B4.out.later hb)
   replace B6:=h! (B6.out.later hb)
   replace HPS:=h! (HPS.out.later hb)
   replace HOS:=h! (HOS.out.later hb)
   replace HW:=h! (HW.out.trans (hb.mono HW.out.size))
   clear hb
   obtain ⟨lB3,cB3,fB3⟩:=B3.out
   obtain ⟨lB4,cB4,fB4⟩:=B4.out
   obtain ⟨lB6,cB6,fB6⟩:=B6.out
   clear hf
   obtain ⟨gx2,cx2,hx2,hFx2,hgx2,hcx2,hfx2,hset⟩:=HPS.out.setv HRS.out.1 HJ.out (nI (z != 0))
   obtain rfl:gx=gx2:=by injection hx2 with h;injection h with h;injection h
   have HPT:=h! hset
   have HOT:Hid (Off (Foot.one gx) w8 (wg.setCell ⟨gx,k,none⟩ (.int .i64 (iT (z != 0))))):=h! (Off.trans HOS.out (Off.set wg ⟨gx,k,none⟩ (.int .i64 (iT (z != 0)))))
   clear hset hx2 hFx2
   clear lB3 cB3 fB3 lB4 cB4 fB4 lB6 cB6 fB6
   go_wp2
   go_roundw
   case rel=>exact ⟨k+1,hkn,hka,by go_num,by rw [<-lZ,HARG.out,if_pos hty2, <-qI _ _ z];exact HPT.out,HOT.out⟩
   simp [intOf];omega
  have hq:(ty == 2)=false:=by simpa using hty2
  go_wp2
  go_roundw
  case rel=>exact ⟨k+1,hkn,hka,by go_num,by rw [<-lZ,HARG.out,if_neg hty2];exact HPS.out,HOS.out⟩
  simp [intOf];omega
 have HSK:Hid (eY f i k 0=eY f i np 0):=h! (by
  by_cases h1:k < np
  ·exact tP (by have:=HDIM.out.2.2.2.2.1;omega) (by omega)
  rw [show k=np by omega])
 have HPZ:=HPK.out
 rw [HSK.out] at HPZ
 obtain ⟨D1,hD1,hM1⟩ : ∃ D1,(∀ k,D1 k -> W3.heap.size <= k)/\RefM c wr bq D1 (eY f i np 0) ⟨0,0,0⟩ false:=⟨_,(by have h9:=HPZ.mach.base;rwa [HC.out.2.1] at h9),HPZ.mach⟩
 have HD1:=h! hD1
 have HM1:=h! hM1
 have H3S:Hid (c.base <= w8.heap.size):=h! (by rw [HC.out.2.1];omega)
 have HE1:Hid (EnvR c f wr):=h! (HEV.out.later (Off.below HOF.out H3S.out (fun k _ h=>by have h9:k=gx:=h;rw [HC.out.2.1];omega)))
 clear hD1 hM1 HPZ HSK B38 B48 B68 HW8 HPK HOF HEV
 obtain ⟨W1,rfl⟩ : ∃ W1,W1=wr:=⟨_,rfl⟩
 have HM1S:Hid (c.base <= W1.heap.size):=h! (aJ (HM1.out.base bq HM1.out.b0) (bG (HM1.out.lt bq HM1.out.b0)))
 have HW1:=HW
 have B31:=B3
 have B41:=B4
 have B61:=B6
 by_cases hkn:k < np
 ·have d2:¬ k < la:=fun h=>hlt ⟨hkn,h⟩
  clear hlt hkla hk
  go_wp2_with fail
  clear hkn d2
  clear lB3 cB3 fB3 lB4 cB4 fB4 lB6 cB6 fB6
  go_loopw [11] (fun iv wr => ∃ (m:Nat),m <= an/\iv = .int .i64 m/\ROk c W1 bq D1 (eY f i np m) ⟨0,0,0⟩ false wr) (fun iv _=>an - (intOf iv).toNat)
  case atStart=>exact ⟨0,aP _,rfl,ROk.same HM1.out (Below.refl _ _)⟩
  obtain ⟨m,hm,rfl,D2,hm2,ho2,hd2⟩:=hrel
  clear HW B3 B4 B6
  have HW:Hid (Below w.heap.size w wr):=h! (HW1.out.trans (ho2.below HW1.out.size (fun k _ h=>by have:=HD1.out k h;omega)))
  have B3:=h! (B31.out.off ho2 (fun e=>by have:=HD1.out _ e;omega))
  have B4:=h! (B41.out.off ho2 (fun e=>by have:=HD1.out _ e;omega))
  have B6:=h! (B61.out.off ho2 (fun e=>by have:=HD1.out _ e;omega))
  have HEW:Hid (EnvR c f wr):=h! (HE1.out.later (ho2.below HM1S.out (fun k _ h=>by rw [HC.out.2.1];exact HD1.out k h)))
  have HOO:=h! ho2
  have HDD2:=h! hd2
  have HMM:=h! hm2
  clear ho2 hd2 hm2
  generalize wr=wo at *
  obtain ⟨lB3,cB3,fB3⟩:=B3.out
  obtain ⟨lB4,cB4,fB4⟩:=B4.out
  obtain ⟨lB6,cB6,fB6⟩:=B6.out
  by_cases hlt:m < an
  ·obtain ⟨ov,av,vv,xv,cv,F,hP,hD⟩:=HMM.out
   have HPR:=h! hP
   have HDF:=h! hD
   have HBASE:Hid (c.base <= wo.heap.size):=h! (aJ (HMM.out.base bq HMM.out.b0) (bG (HMM.out.lt bq HMM.out.b0)))
   obtain ⟨x,hx⟩ : ∃ x,x=(i.arrays.getD m []).take 4096:=⟨_,rfl⟩
   have HX:=h! hx
   obtain ⟨ll,hll⟩ : ∃ ll,ll=x.length:=⟨_,rfl⟩
   have HXL:Hid (x.length=ll):=h! hll.symm
   have hll4:ll <= 4096:=by rw [hll,hx,aX];omega
   obtain ⟨arrs,har⟩ : ∃ arrs,arrs=(eY f i np m).arrays:=⟨_,rfl⟩
   have HAL:Hid (arrs.length=m):=h! (by rw [har];show ((List.range m).map _).length=m;rw [bD,List.length_range])
   have HNXT:Hid ({ eY f i np m with arrays:=arrs ++ [x] } = eY f i np (m+1)):=h! (by rw [har,hx,nQ];rfl)
   have HAR:Hid (Holds [] c.base wo (F 2) (fun W=>iG W (F 2) av arrs)):=h! (by rw [har];exact rD OLis.nice hP.arr (fun k hk=>hP.base 2 k hk))
   have NBM:Hid (¬ F 2 bq):=h! (fun h=>HPR.out.apart 0 2 (by omega) _ ((HPR.out.b0 _).2 rfl) h)
   have HOA:Hid (fG wo (wo.alloc (.cells #[] 3))):=h! ((Below.refl _ _).alloc (aF _) _)
   have HNE:Hid (x ≠ [] -> m < lb):=h! (fun h=>by
    refine Classical.byContradiction fun h2=>h ?_
    rw [hx,aH,aW (by have:=HDIM.out.2.2.2.2.2;omega)];rfl)
   clear hP hD hx har hll
   --@I
   go_wp2_with fail
   have HWO:=HW
   have B3O:=B3
   have B4O:=B4
   clear lB3 cB3 fB3 lB4 cB4 fB4 lB6 cB6 fB6
   go_loopw [12,13] (fun t qv wr => ∃ (q:Nat) (S:Foot) (a:Option Addr) (c5:Nat),q <= ll/\qv = .int .i64 q/\t = .slice a q c5/\eM wr S (.slice a q c5) (x.take q)/\jY wo.heap.size S/\fG wo wr) (fun _ qv _=>ll - (intOf qv).toNat)
   case atStart=>exact ⟨0,Foot.none,_,0,aP _,rfl,rfl,eM.nil _,fun _ h=>h.elim,HOA.out⟩
   obtain ⟨q,S2,a6,c6,hq,rfl,rfl,hO,hF,hs⟩:=hrel
   clear HW B3 B4 B6 HOA
   have HSO:=h! hs
   have HO2:=h! hO
   have HF2:=h! hF
   have HW:Hid (Below w.heap.size w wr):=h! (HWO.out.trans (Below.mono hs HWO.out.size))
   have B3:=h! (B3O.out.later hs)
   have B4:=h! (B4O.out.later hs)
   clear hs hO hF
   obtain ⟨lB3,cB3,fB3⟩:=B3.out
   obtain ⟨lB4,cB4,fB4⟩:=B4.out
   by_cases hmb:m < lb
   ·skip
    obtain ⟨rfl,hbw⟩:=HLW.out (by omega)
    have hrow:=(HW.out.cell (p:=⟨lbk,lo+m,none⟩) hbw).trans (HLC.out m hmb)
    have hri:=HLI.out m hmb
    obtain ⟨ax,cx,hxe⟩:=hri.form
    obtain ⟨xm,hxm⟩ : ∃ xm,xm=(i.arrays.getD m []).length:=⟨_,rfl⟩
    rw [hxe, <-hxm] at hrow
    have hll2:ll=min 4096 xm:=by have h9:=HXL.out;rw [HX.out,aX, <-hxm] at h9;omega
    have hbig:=hri.1.big
    rw [<-hxm] at hbig
    have HXM:=h! hxm
    clear hxm
    by_cases hqx:q < xm
    ·skip
     by_cases hq4:q < 4096
     ·skip
      obtain ⟨xb,xo,xc,hve,hxbl,hxx⟩:=fK hri (by rw [<-HXM.out];omega)
      rw [hxe] at hve
      injection hve with e1 e2 e3
      subst e1
      obtain ⟨z,hz⟩ : ∃ z,z=(i.arrays.getD m []).getD q 0:=⟨_,rfl⟩
      have hzc:=(HW.out.cell (p:=⟨xb,xo+q,none⟩) hxbl).trans (hxx q (by rw [<-HXM.out];exact hqx))
      rw [<-hz] at hzc
      have hZ64:In64 z:=by rw [hz];exact hri.getD q
      have HTK:Hid (x.take (q+1)=x.take q ++ [z]):=h! (by
       have h9:x[q]? = some z:=by
        rw [HX.out,bE,if_pos hq4,hz]
        exact eX _ q (by rw [<-HXM.out];exact hqx)
       rw [bU,h9];rfl)
      have HZ64:=h! hZ64
      have HLN:Hid ((x.take q).length=q):=h! (by rw [aX,HXL.out];omega)
      have HOH:Hid (Holds [] wo.heap.size wr S2 (fun W=>eM W S2 (.slice a6 q c6) (x.take q))):=h! (jF HO2.out HF2.out)
      have hql:q < ll:=by omega
      clear hz hxx e2 e3 hxe hri hZ64 HO2
      --@J
      go_upto_region 21 with (fail)
      have HZC:=h! hzc
      have HROW:=h! hrow
      have hxbr:xb < wr.heap.size:=aL hxbl HW.out.size
      have hlbr:lbk < wr.heap.size:=aL hbw HW.out.size
      clear hzc hrow
      refine gK 10 (fun kz=>match kz with | 9=>.made wr.heap.size (fun b=>.slice (some ⟨b,0,none⟩) 1 1) #[.int .i64 z] | _=>.plain) (by kernel_rfl) (by simp) ?_ (fun ν => ?_)
      ·(intro k;(try dsimp only);split <;> first | exact True.intro | (intro u w1 w2 hu hb;exact hu.below hb))
      simp only [aK,aR,aM,aT]
      iterate 9 (refine Grow.val (v := ?_) rfl rfl (fun wg hbg hdg => ?_) ?_;rotate_left;(focus ((obtain ⟨lg0,cg0,fg0⟩:=B3.out.later hbg);(obtain ⟨lg1,cg1,fg1⟩:=B4.out.later hbg);(have hzw:=(hbg.cell (p:=⟨xb,xo+q,none⟩) hxbr).trans HZC.out;have hrw:=(hbg.cell (p:=⟨lbk,lo+m,none⟩) hlbr).trans HROW.out);clear hbg hdg;first | (go_simp;done) | (go_simp;with_reducible rfl)));simp only [Act.put,aA,aC,aD])
      refine Grow.made (T := ?_) rfl rfl (fun wg hbg hdg => ?_) ?_
      rotate_left
      focus ((obtain ⟨lg0,cg0,fg0⟩:=B3.out.later hbg);(obtain ⟨lg1,cg1,fg1⟩:=B4.out.later hbg);(have hzw:=(hbg.cell (p:=⟨xb,xo+q,none⟩) hxbr).trans HZC.out;have hrw:=(hbg.cell (p:=⟨lbk,lo+m,none⟩) hlbr).trans HROW.out);clear hbg hdg;first | (go_simp;done) | (go_simp;with_reducible rfl))
      simp only [Act.put,Known.val,aA,aC,aD]
      intro wg hb hf hap
      obtain ⟨bBN,hνBN,hBBN,hXBN⟩:=hf 9 (by omega)
      have nBNB3:bBN ≠ w.heap.size:=fun e=>by have:=lB3;omega
      have nB3BN:w.heap.size ≠ bBN:=fun e=>nBNB3 e.symm
      have nBNB4:bBN ≠ w.heap.size+1:=fun e=>by have:=lB4;omega
      have nB4BN:w.heap.size+1 ≠ bBN:=fun e=>nBNB4 e.symm
      simp only [hνBN]
      clear hνBN
      clear hap
      have gBN:=aJ HW.out.size hBBN
      clear hBBN
      clear lB3 cB3 fB3 lB4 cB4 fB4
      replace B3:=h! (B3.out.later hb)
      replace B4:=h! (B4.out.later hb)
      replace HOH:=h! (HOH.out.later hb)
      replace HSO:=h! (HSO.out.later hb)
      replace HW:=h! (HW.out.trans (hb.mono HW.out.size))
      clear hb
      have BN:=h! hXBN
      clear hXBN
      obtain ⟨lB3,cB3,fB3⟩:=B3.out
      obtain ⟨lB4,cB4,fB4⟩:=B4.out
      obtain ⟨lBN,cBN,fBN⟩:=BN.out
      clear hf
      clear lB3 cB3 fB3 lB4 cB4 fB4 lBN cBN fBN
      refine jC rfl _ _ rfl rfl rfl HLN.out HOH.out.now BN.out HZ64.out (by omega) ?_
      intro g1 c1 w10 q1 q2 q3
      have HS10:Hid (fG wo w10):=h! (Below.trans HSO.out (q3.below (Below.size HSO.out) (fun k _ hk=>HF2.out k hk)))
      have HO10:Hid (eM w10 (Foot.one g1) (.slice (some ⟨g1,0,none⟩) (q+1) c1) (x.take (q+1))):=h! (by rw [HTK.out];exact q1)
      have HF10:Hid (jY wo.heap.size (Foot.one g1)):=h! (fun k hk=>by
       cases hk
       rcases q2 with h | h
       ·exact HF2.out _ h
       exact aJ (Below.size HSO.out) h)
      clear q1 q2 q3
      go_wp2
      go_roundw
      case rel=>exact ⟨q+1,_,_,_,hql,by go_num,rfl,HO10.out,HF10.out,HS10.out⟩
      simp [intOf];omega
     skip
     have d3:decide ((q:Int) < 4096)=false:=by simp;omega
     --@K
     go_upto_region 22 with (fail)
     clear hmb hrow d3 hxe
     have HXQ:Hid (eM wr S2 (.slice a6 q c6) x):=h! (by
      have h9:=HO2.out
      rw [aI (by rw [HXL.out];omega)] at h9
      exact h9)
     have HP2:=h! (HPR.out.later HSO.out)
     have HEL:Hid (Holds [] c.base wr S2 (fun W=>OLis W S2 [.slice a6 q c6] x)):=h! ⟨⟨_,rfl,HXQ.out⟩,fun W1 W2 h hk=>OLis.nice.keep h hk,HXQ.out.lt,fun k hk=>aJ HBASE.out (HF2.out k hk),fun _ _ h=>by simp at h⟩
     have HAR2:=h! (HAR.out.later HSO.out)
     have HFK:Hid (S2.off (F 2)):=h! (fun k h1 h2=>by have h3:=HF2.out k h1;have h4:=HPR.out.lt h2;omega)
     have hp1:∀ b ∈ ([] : List Nat),b < c.base:=fun b hb=>by cases hb
     have hp5:∀ o,c.base <= (wr.alloc o).heap.size:=fun o=>by have:=HBASE.out;have:=Below.size HSO.out;simp;omega
     have hp4:∀ u ∈ [Value.slice a6 q c6],u.oneCell' = true:=by simp [Value.oneCell']
     have hp2:m+1 <= 17592186044416:=by omega
     have hp3:(m+1) * 24 <= 140737488355328:=by omega
     obtain ⟨lm,cm,fm⟩:=HP2.out.box
     have k8:wr.cell? ⟨bq,8,none⟩=some av:=cm 8
     clear cm fm
     go_upto_region 16 with (at_builtin;go_loud (refine iJ OLis.nice rfl _ _ 26 22 rfl tW rfl rfl HAL.out (HAR2.out.alloc _) (Box.new _ _ _) rfl (HEL.out.alloc _).now HFK.out HEL.out.base hp1 (hp5 _) hp4 hp2 hp3 ?_);intro v2 w10 SN q1 q2 q3 q4;obtain ⟨g2,c9,rfl⟩:=q4;have hbx:=(HP2.out.alloc _).box.off q3 NBM.out;obtain ⟨lz,cz,fz⟩:=hbx;have HQ1:=h! q1;have HQ2:=h! q2;have HQ3:=h! q3;clear q1 q2 q3)
     clear hp1 hp5 hp4 hp2 hp3 k8 lm lz cz fz
     have HOFW:Hid (Off (F 2) wo w10):=h! ((Off.of_below HSO.out (F 2)).trans ((Off.alloc _ _ _).trans HQ3.out))
     have HSUB:Hid (∀ k,SN k -> F 2 k \/ wo.heap.size <= k):=h! (fun k hk=>by
      rcases HQ2.out k hk with h | h | h
      ·exact .inl h
      ·exact .inr (HF2.out k h)
      have:=Below.size HSO.out
      simp at h
      exact .inr (by omega))
     have HNEW:Hid (RefP c (w10.setCell ⟨bq,8,none⟩ (.slice (some ⟨g2,0,none⟩) (m+1) c9)) bq (eY f i np (m+1)) ⟨0,0,0⟩ false ov (.slice (some ⟨g2,0,none⟩) (m+1) c9) vv xv cv (newF F 2 SN)):=h! (by rw [<-HNXT.out];exact HPR.out.arrs HOFW.out HSUB.out HBASE.out HQ1.out.now)
     have HMK:Hid (ROk c W1 bq D1 (eY f i np (m+1)) ⟨0,0,0⟩ false (w10.setCell ⟨bq,8,none⟩ (.slice (some ⟨g2,0,none⟩) (m+1) c9))):=h! (ROk.trans HOO.out HDD2.out (ROk.of HDF.out HNEW.out ((HOFW.out.mono fun k _ hk=>⟨2,hk⟩).trans ((Off.set w10 ⟨bq,8,none⟩ _).mono fun k _ hk=>⟨0,(HPR.out.b0 k).2 hk⟩)) (iM HSUB.out)))
     clear HQ1 HQ2 HQ3 HOFW HSUB HNEW HXQ HP2 HEL HAR2 HFK
     go_wp2
     go_roundw
     case rel=>exact ⟨m+1,hlt,by go_num,HMK.out⟩
     simp [intOf];omega
    skip
    --@L
    go_upto_region 22 with (fail)
    clear hmb hrow hxe
    have HXQ:Hid (eM wr S2 (.slice a6 q c6) x):=h! (by
     have h9:=HO2.out
     rw [aI (by rw [HXL.out];omega)] at h9
     exact h9)
    have HP2:=h! (HPR.out.later HSO.out)
    have HEL:Hid (Holds [] c.base wr S2 (fun W=>OLis W S2 [.slice a6 q c6] x)):=h! ⟨⟨_,rfl,HXQ.out⟩,fun W1 W2 h hk=>OLis.nice.keep h hk,HXQ.out.lt,fun k hk=>aJ HBASE.out (HF2.out k hk),fun _ _ h=>by simp at h⟩
    have HAR2:=h! (HAR.out.later HSO.out)
    have HFK:Hid (S2.off (F 2)):=h! (fun k h1 h2=>by have h3:=HF2.out k h1;have h4:=HPR.out.lt h2;omega)
    have hp1:∀ b ∈ ([] : List Nat),b < c.base:=fun b hb=>by cases hb
    have hp5:∀ o,c.base <= (wr.alloc o).heap.size:=fun o=>by have:=HBASE.out;have:=Below.size HSO.out;simp;omega
    have hp4:∀ u ∈ [Value.slice a6 q c6],u.oneCell' = true:=by simp [Value.oneCell']
    have hp2:m+1 <= 17592186044416:=by omega
    have hp3:(m+1) * 24 <= 140737488355328:=by omega
    obtain ⟨lm,cm,fm⟩:=HP2.out.box
    have k8:wr.cell? ⟨bq,8,none⟩=some av:=cm 8
    clear cm fm
    go_upto_region 16 with (at_builtin;go_loud (refine iJ OLis.nice rfl _ _ 26 22 rfl tW rfl rfl HAL.out (HAR2.out.alloc _) (Box.new _ _ _) rfl (HEL.out.alloc _).now HFK.out HEL.out.base hp1 (hp5 _) hp4 hp2 hp3 ?_);intro v2 w10 SN q1 q2 q3 q4;obtain ⟨g2,c9,rfl⟩:=q4;have hbx:=(HP2.out.alloc _).box.off q3 NBM.out;obtain ⟨lz,cz,fz⟩:=hbx;have HQ1:=h! q1;have HQ2:=h! q2;have HQ3:=h! q3;clear q1 q2 q3)
    clear hp1 hp5 hp4 hp2 hp3 k8 lm lz cz fz
    have HOFW:Hid (Off (F 2) wo w10):=h! ((Off.of_below HSO.out (F 2)).trans ((Off.alloc _ _ _).trans HQ3.out))
    have HSUB:Hid (∀ k,SN k -> F 2 k \/ wo.heap.size <= k):=h! (fun k hk=>by
     rcases HQ2.out k hk with h | h | h
     ·exact .inl h
     ·exact .inr (HF2.out k h)
     have:=Below.size HSO.out
     simp at h
     exact .inr (by omega))
    have HNEW:Hid (RefP c (w10.setCell ⟨bq,8,none⟩ (.slice (some ⟨g2,0,none⟩) (m+1) c9)) bq (eY f i np (m+1)) ⟨0,0,0⟩ false ov (.slice (some ⟨g2,0,none⟩) (m+1) c9) vv xv cv (newF F 2 SN)):=h! (by rw [<-HNXT.out];exact HPR.out.arrs HOFW.out HSUB.out HBASE.out HQ1.out.now)
    have HMK:Hid (ROk c W1 bq D1 (eY f i np (m+1)) ⟨0,0,0⟩ false (w10.setCell ⟨bq,8,none⟩ (.slice (some ⟨g2,0,none⟩) (m+1) c9))):=h! (ROk.trans HOO.out HDD2.out (ROk.of HDF.out HNEW.out ((HOFW.out.mono fun k _ hk=>⟨2,hk⟩).trans ((Off.set w10 ⟨bq,8,none⟩ _).mono fun k _ hk=>⟨0,(HPR.out.b0 k).2 hk⟩)) (iM HSUB.out)))
    clear HQ1 HQ2 HQ3 HOFW HSUB HNEW HXQ HP2 HEL HAR2 HFK
    go_wp2
    go_roundw
    case rel=>exact ⟨m+1,hlt,by go_num,HMK.out⟩
    simp [intOf];omega
   skip
   have hl0:ll=0:=by
    refine Classical.byContradiction fun h=>hmb (HNE.out (fun h2=>h ?_))
    have h9:=HXL.out
    rw [h2] at h9
    exact h9.symm
   --@M
   go_upto_region 22 with (fail)
   clear hmb
   have HXQ:Hid (eM wr S2 (.slice a6 q c6) x):=h! (by
    have h9:=HO2.out
    rw [aI (by rw [HXL.out];omega)] at h9
    exact h9)
   have HP2:=h! (HPR.out.later HSO.out)
   have HEL:Hid (Holds [] c.base wr S2 (fun W=>OLis W S2 [.slice a6 q c6] x)):=h! ⟨⟨_,rfl,HXQ.out⟩,fun W1 W2 h hk=>OLis.nice.keep h hk,HXQ.out.lt,fun k hk=>aJ HBASE.out (HF2.out k hk),fun _ _ h=>by simp at h⟩
   have HAR2:=h! (HAR.out.later HSO.out)
   have HFK:Hid (S2.off (F 2)):=h! (fun k h1 h2=>by have h3:=HF2.out k h1;have h4:=HPR.out.lt h2;omega)
   have hp1:∀ b ∈ ([] : List Nat),b < c.base:=fun b hb=>by cases hb
   have hp5:∀ o,c.base <= (wr.alloc o).heap.size:=fun o=>by have:=HBASE.out;have:=Below.size HSO.out;simp;omega
   have hp4:∀ u ∈ [Value.slice a6 q c6],u.oneCell' = true:=by simp [Value.oneCell']
   have hp2:m+1 <= 17592186044416:=by omega
   have hp3:(m+1) * 24 <= 140737488355328:=by omega
   obtain ⟨lm,cm,fm⟩:=HP2.out.box
   have k8:wr.cell? ⟨bq,8,none⟩=some av:=cm 8
   clear cm fm
   go_upto_region 16 with (at_builtin;go_loud (refine iJ OLis.nice rfl _ _ 26 22 rfl tW rfl rfl HAL.out (HAR2.out.alloc _) (Box.new _ _ _) rfl (HEL.out.alloc _).now HFK.out HEL.out.base hp1 (hp5 _) hp4 hp2 hp3 ?_);intro v2 w10 SN q1 q2 q3 q4;obtain ⟨g2,c9,rfl⟩:=q4;have hbx:=(HP2.out.alloc _).box.off q3 NBM.out;obtain ⟨lz,cz,fz⟩:=hbx;have HQ1:=h! q1;have HQ2:=h! q2;have HQ3:=h! q3;clear q1 q2 q3)
   clear hp1 hp5 hp4 hp2 hp3 k8 lm lz cz fz
   have HOFW:Hid (Off (F 2) wo w10):=h! ((Off.of_below HSO.out (F 2)).trans ((Off.alloc _ _ _).trans HQ3.out))
   have HSUB:Hid (∀ k,SN k -> F 2 k \/ wo.heap.size <= k):=h! (fun k hk=>by
    rcases HQ2.out k hk with h | h | h
    ·exact .inl h
    ·exact .inr (HF2.out k h)
    have:=Below.size HSO.out
    simp at h
    exact .inr (by omega))
   have HNEW:Hid (RefP c (w10.setCell ⟨bq,8,none⟩ (.slice (some ⟨g2,0,none⟩) (m+1) c9)) bq (eY f i np (m+1)) ⟨0,0,0⟩ false ov (.slice (some ⟨g2,0,none⟩) (m+1) c9) vv xv cv (newF F 2 SN)):=h! (by rw [<-HNXT.out];exact HPR.out.arrs HOFW.out HSUB.out HBASE.out HQ1.out.now)
   have HMK:Hid (ROk c W1 bq D1 (eY f i np (m+1)) ⟨0,0,0⟩ false (w10.setCell ⟨bq,8,none⟩ (.slice (some ⟨g2,0,none⟩) (m+1) c9))):=h! (ROk.trans HOO.out HDD2.out (ROk.of HDF.out HNEW.out ((HOFW.out.mono fun k _ hk=>⟨2,hk⟩).trans ((Off.set w10 ⟨bq,8,none⟩ _).mono fun k _ hk=>⟨0,(HPR.out.b0 k).2 hk⟩)) (iM HSUB.out)))
   clear HQ1 HQ2 HQ3 HOFW HSUB HNEW HXQ HP2 HEL HAR2 HFK
   go_wp2
   go_roundw
   case rel=>exact ⟨m+1,hlt,by go_num,HMK.out⟩
   simp [intOf];omega
  obtain rfl:an=m:=by omega
  have HM2:Hid (RefM c wo bq D2 (iI f i) ⟨0,0,0⟩ false):=h! (by
   have h9:=nP f i
   rw [<-HDIM.out.1, <-HDIM.out.2.1,cU] at h9
   rw [<-h9];exact HMM.out)
  have HND:Hid (∀ k,D2 k -> W3.heap.size <= k):=h! (fun k hk=>by have h9:=HMM.out.base k hk;rwa [HC.out.2.1] at h9)
  have HBW:Hid (c.base <= wo.heap.size):=h! (aJ (HMM.out.base bq HMM.out.b0) (bG (HMM.out.lt bq HMM.out.b0)))
  have HVZ:Hid (∀ n ∈ (iI f i).visits,n <= (iI f i).steps+1):=h! (fun n hn=>by
   have h9:n ∈ List.replicate f.blocks.length 0:=hn
   have:=bX h9
   omega)
  clear HMM HDD2 HOO hlt HM1 HE1
  have HW2:=HW
  have B62:=B6
  --@N
  go_wp2_with fail
  clear lB3 cB3 fB3 lB4 cB4 fB4 lB6 cB6 fB6
  go_loopw [14,15] (fun fr av wr => ∃ (src z:Int) (s1:RunS) (o:OverD) (dead:Bool),fr = .int .i64 src/\av = .int .i64 z/\ROk c wo bq D2 s1 o dead wr/\(dead=false -> o=⟨0,0,0⟩ /\ ∃ a:Nat,z=a/\In f src a/\(∀ o s',Runs f c.fuel src a s1 o s' -> Runs f c.fuel (-1) 0 (iI f i) o s')/\GoodS f c.fuel s1 /\ ∀ n ∈ s1.visits,n <= s1.steps+1)/\(dead=true -> Runs f c.fuel (-1) 0 (iI f i) o s1)) (fun _ _ W=>stepsR W bq fl)
  case atStart=>exact ⟨-1,0,_,⟨0,0,0⟩,false,rfl,rfl,ROk.same HM2.out (Below.refl _ _),fun _=>⟨rfl,0,rfl,.inl ⟨rfl,rfl⟩,fun _ _ h=>h,GoodS.start HCH.out,HVZ.out⟩,fun h=>by cases h⟩
  obtain ⟨src,z,s1,o,dead,rfl,rfl,⟨D3,hm3,ho3,hd3⟩,hgo,hover⟩:=hrel
  clear HW B3 B4 B6
  have HM3:=h! hm3
  have HO3:=h! ho3
  have HD3:=h! hd3
  have HW:Hid (Below w.heap.size w wr):=h! (HW2.out.trans (ho3.below HW2.out.size (fun k _ h=>by have:=HND.out k h;omega)))
  have B6:=h! (B62.out.off ho3 (fun e=>by have:=HND.out _ e;omega))
  have HEV:Hid (EnvR c f wr):=h! (HEW.out.later (ho3.below HBW.out (fun k _ h=>by rw [HC.out.2.1];exact HND.out k h)))
  obtain ⟨ov,av,vv,xv,cv,F,hP,hD⟩:=hm3
  have HPR:=h! hP
  have k16:wr.cell? ⟨bq,16,none⟩=some (.bool dead):=hP.box.at 16 rfl
  have lq:bq < wr.heap.size:=hP.box.lt
  clear ho3 hd3 hP
  cases dead
  ·obtain ⟨rfl,a,rfl,hin,hru,hg1,hv1⟩:=hgo rfl
   obtain ⟨y,hy⟩ : ∃ y,f.blocks[a]? = some y:=⟨_,aB (hin.lt HCH.out)⟩
   have HIN2:=h! hin
   have HRU:=h! hru
   have HG1:=h! hg1
   have HV1:=h! hv1
   have HY:=h! hy
   have HSR:=h! (hin.phis HCH.out HFR.out hy)
   have HVB:Hid (∀ n ∈ s1.visits,n <= 1000000):=h! (fun n hn=>by have:=hv1 n hn;have:=hg1.stp;have:=HC.out.1;have:=HFL.out.2;omega)
   clear hgo hover hin hru hg1 hv1 hy
   --@R
   go_wp2_with fail
   clear k16
   refine (aC6 HM3.out HEV.out HRS.out.1 HRS.out.2.2.2 HCH.out (by have:=HC.out.1;have:=HFL.out.2;omega) HG1.out HVB.out HY.out HSR.out).mono ?_
   rintro e w9 hq
   cases hbl:gP f c.fuel src a s1 with
   | over o s2 =>
    rw [hbl] at hq
    obtain ⟨⟨v,rfl⟩,hk⟩:=hq
    have HRUN:Hid (Runs f c.fuel (-1) 0 (iI f i) o s2):=h! (HRU.out o s2 (Runs.over hbl))
    have HMS:Hid (stepsR w9 bq fl=0):=h! (by obtain ⟨D9,hm9, -, -⟩:=hk;rw [hm9.stepsR];rfl)
    have HMR:Hid (0 < stepsR wr bq fl):=h! (by rw [HM3.out.stepsR];have:=HG1.out.stp;have:=HC.out.1;simp;omega)
    have HOK:=h! (ROk.trans HO3.out HD3.out hk)
    clear hk hbl
    go_wp2
    go_roundw
    case rel=>exact ⟨a,v,s2,o,true,rfl,rfl,HOK.out,(fun h=>by cases h),fun _=>HRUN.out⟩
    rw [HMS.out];exact HMR.out
   | go to s2 =>
    rw [hbl] at hq
    obtain ⟨rfl,hk⟩:=hq
    have hgo:=rA HCH.out HG1.out HY.out HSR.out hbl
    obtain ⟨t,rfl,ht⟩:=hgo.to
    have HGO:=h! hgo
    have HT:=h! ht
    have HBL:=h! hbl
    have HVN:Hid (∀ n ∈ s2.visits,n <= s2.steps+1):=h! (fun n hn=>by
     rw [hgo.visits] at hn
     obtain ⟨i,hi⟩:=bP hn
     rw [eC] at hi
     have hs:=hgo.steps
     cases hq:s1.visits[i]? with
     | none=>rw [hq] at hi;simp at hi
     | some q =>
      rw [hq] at hi
      have:=HV1.out q (aG hq)
      simp at hi
      split at hi <;> omega)
    have HMS:Hid (stepsR w9 bq fl < stepsR wr bq fl):=h! (by
     obtain ⟨D9,hm9, -, -⟩:=hk
     rw [hm9.stepsR,HM3.out.stepsR]
     have:=hgo.steps
     have:=hgo.good.stp
     have:=HC.out.1
     simp
     omega)
    have HOK:=h! (ROk.trans HO3.out HD3.out hk)
    have hal:a < f.blocks.length:=HIN2.out.lt HCH.out
    clear hk hbl hgo ht
    go_wp2
    go_roundw
    case rel=>exact ⟨a,t,s2,⟨0,0,0⟩,false,rfl,rfl,HOK.out,fun _=>⟨rfl,t,rfl,.inr ⟨a,rfl,hal,HT.out⟩,fun o s' h=>HRU.out o s' (Runs.go HBL.out (by simpa using h)),HGO.out.good,HVN.out⟩,fun h=>by cases h⟩
    exact HMS.out
  have HRUN:=h! (hover rfl)
  clear hgo hover
  obtain ⟨a1,c1,hov⟩:=HPR.out.out.ints.form
  obtain ⟨a2,c2,hvv⟩:=HPR.out.vis.ints.form
  obtain ⟨vs3,a3,c3,b3,o3,hav, -, -, -, -, -, -⟩:=HPR.out.arr.lists.parts
  subst hov hvv hav
  have HOZ:Hid (OffF (fun k=>k=w.heap.size+1+1) wr wr):=h! (Off.refl _ _)
  have HF9:Hid (∀ j k,F j k -> k ≠ w.heap.size+1+1):=h! (fun j k hk e=>by have:=HPR.out.base j k hk;have:=HC.out.2.1;omega)
  obtain ⟨lm,cm,fm⟩:=HPR.out.box
  clear k16
  obtain ⟨lB6,cB6,fB6⟩:=B6.out
  --@T
  go_wp2_with fail
  clear lB6 cB6 fB6
  have hO_:=((((((((Only.set wr (w.heap.size+1+1) 0 (.int .i64 o.how)).put 1 (.int .i64 o.value)).put 2 (.int .i64 o.trap)).put 3 (.slice a1 s1.out.length c1)).put 4 (.slice a3 s1.arrays.length c3)).put 5 (.int .i64 s1.steps)).put 6 (.int .i64 s1.checks)).put 7 (.slice a2 (natI s1.visits).length c2))
  replace HOZ:=h! ((((((((HOZ.out.other (p:=⟨w.heap.size+1+1,0,none⟩) (.int .i64 o.how) (by simp)).other (p:=⟨w.heap.size+1+1,1,none⟩) (.int .i64 o.value) (by simp)).other (p:=⟨w.heap.size+1+1,2,none⟩) (.int .i64 o.trap) (by simp)).other (p:=⟨w.heap.size+1+1,3,none⟩) (.slice a1 s1.out.length c1) (by simp)).other (p:=⟨w.heap.size+1+1,4,none⟩) (.slice a3 s1.arrays.length c3) (by simp)).other (p:=⟨w.heap.size+1+1,5,none⟩) (.int .i64 s1.steps) (by simp)).other (p:=⟨w.heap.size+1+1,6,none⟩) (.int .i64 s1.checks) (by simp)).other (p:=⟨w.heap.size+1+1,7,none⟩) (.slice a2 (natI s1.visits).length c2) (by simp))
  replace HW:=h! (hO_.2.2 HW.out (by first | assumption | omega | (have:=HW.out.size;omega) | (simp;done) | (simp;omega)))
  replace B6:=h! (Box.to (A':=#[(.int .i64 o.how),(.int .i64 o.value),(.int .i64 o.trap),(.slice a1 s1.out.length c1),(.slice a3 s1.arrays.length c3),(.int .i64 s1.steps),(.int .i64 s1.checks),(.slice a2 (natI s1.visits).length c2)]) ((((((((B6.out.set 0 (.int .i64 o.how)).set 1 (.int .i64 o.value)).set 2 (.int .i64 o.trap)).set 3 (.slice a1 s1.out.length c1)).set 4 (.slice a3 s1.arrays.length c3)).set 5 (.int .i64 s1.steps)).set 6 (.int .i64 s1.checks)).set 7 (.slice a2 (natI s1.visits).length c2)) (by first | rfl | simp))
  clear hO_
  generalize ((((((((wr.setCell ⟨w.heap.size+1+1,0,none⟩ (.int .i64 o.how)).setCell ⟨w.heap.size+1+1,1,none⟩ (.int .i64 o.value)).setCell ⟨w.heap.size+1+1,2,none⟩ (.int .i64 o.trap)).setCell ⟨w.heap.size+1+1,3,none⟩ (.slice a1 s1.out.length c1)).setCell ⟨w.heap.size+1+1,4,none⟩ (.slice a3 s1.arrays.length c3)).setCell ⟨w.heap.size+1+1,5,none⟩ (.int .i64 s1.steps)).setCell ⟨w.heap.size+1+1,6,none⟩ (.int .i64 s1.checks)).setCell ⟨w.heap.size+1+1,7,none⟩ (.slice a2 (natI s1.visits).length c2))=wz at *
  obtain ⟨lB6,cB6,fB6⟩:=B6.out
  have HPZ:=h! (HPR.out.keep HOZ.out (fun j k hk e=>HF9.out j k hk e))
  refine bodyPost_ret (v:=.agg #[.int .i64 o.how,.int .i64 o.value,.int .i64 o.trap,.slice a1 s1.out.length c1,.slice a3 s1.arrays.length c3,.int .i64 s1.steps,.int .i64 s1.checks,.slice a2 (natI s1.visits).length c2]) (by simp [results,Tryz.results14,go_sem,cB6]) rfl ⟨_,qD o s1,rfl,.inr ⟨HCH.out,HFR.out,by omega,o,s1,by rw [HFL.out.1, <-HC.out.1];exact HRUN.out,rfl⟩,HPZ.out.trace.val,HW.out⟩
 clear hlt hkla
 go_wp2_with fail
 clear hkn
 clear lB3 cB3 fB3 lB4 cB4 fB4 lB6 cB6 fB6
 go_loopw [11] (fun iv wr => ∃ (m:Nat),m <= an/\iv = .int .i64 m/\ROk c W1 bq D1 (eY f i np m) ⟨0,0,0⟩ false wr) (fun iv _=>an - (intOf iv).toNat)
 case atStart=>exact ⟨0,aP _,rfl,ROk.same HM1.out (Below.refl _ _)⟩
 obtain ⟨m,hm,rfl,D2,hm2,ho2,hd2⟩:=hrel
 clear HW B3 B4 B6
 have HW:Hid (Below w.heap.size w wr):=h! (HW1.out.trans (ho2.below HW1.out.size (fun k _ h=>by have:=HD1.out k h;omega)))
 have B3:=h! (B31.out.off ho2 (fun e=>by have:=HD1.out _ e;omega))
 have B4:=h! (B41.out.off ho2 (fun e=>by have:=HD1.out _ e;omega))
 have B6:=h! (B61.out.off ho2 (fun e=>by have:=HD1.out _ e;omega))
 have HEW:Hid (EnvR c f wr):=h! (HE1.out.later (ho2.below HM1S.out (fun k _ h=>by rw [HC.out.2.1];exact HD1.out k h)))
 have HOO:=h! ho2
 have HDD2:=h! hd2
 have HMM:=h! hm2
 clear ho2 hd2 hm2
 generalize wr=wo at *
 obtain ⟨lB3,cB3,fB3⟩:=B3.out
 obtain ⟨lB4,cB4,fB4⟩:=B4.out
 obtain ⟨lB6,cB6,fB6⟩:=B6.out
 by_cases hlt:m < an
 ·obtain ⟨ov,av,vv,xv,cv,F,hP,hD⟩:=HMM.out
  have HPR:=h! hP
  have HDF:=h! hD
  have HBASE:Hid (c.base <= wo.heap.size):=h! (aJ (HMM.out.base bq HMM.out.b0) (bG (HMM.out.lt bq HMM.out.b0)))
  obtain ⟨x,hx⟩ : ∃ x,x=(i.arrays.getD m []).take 4096:=⟨_,rfl⟩
  have HX:=h! hx
  obtain ⟨ll,hll⟩ : ∃ ll,ll=x.length:=⟨_,rfl⟩
  have HXL:Hid (x.length=ll):=h! hll.symm
  have hll4:ll <= 4096:=by rw [hll,hx,aX];omega
  obtain ⟨arrs,har⟩ : ∃ arrs,arrs=(eY f i np m).arrays:=⟨_,rfl⟩
  have HAL:Hid (arrs.length=m):=h! (by rw [har];show ((List.range m).map _).length=m;rw [bD,List.length_range])
  have HNXT:Hid ({ eY f i np m with arrays:=arrs ++ [x] } = eY f i np (m+1)):=h! (by rw [har,hx,nQ];rfl)
  have HAR:Hid (Holds [] c.base wo (F 2) (fun W=>iG W (F 2) av arrs)):=h! (by rw [har];exact rD OLis.nice hP.arr (fun k hk=>hP.base 2 k hk))
  have NBM:Hid (¬ F 2 bq):=h! (fun h=>HPR.out.apart 0 2 (by omega) _ ((HPR.out.b0 _).2 rfl) h)
  have HOA:Hid (fG wo (wo.alloc (.cells #[] 3))):=h! ((Below.refl _ _).alloc (aF _) _)
  have HNE:Hid (x ≠ [] -> m < lb):=h! (fun h=>by
   refine Classical.byContradiction fun h2=>h ?_
   rw [hx,aH,aW (by have:=HDIM.out.2.2.2.2.2;omega)];rfl)
  clear hP hD hx har hll
  --@I
  go_wp2_with fail
  have HWO:=HW
  have B3O:=B3
  have B4O:=B4
  clear lB3 cB3 fB3 lB4 cB4 fB4 lB6 cB6 fB6
  go_loopw [12,13] (fun t qv wr => ∃ (q:Nat) (S:Foot) (a:Option Addr) (c5:Nat),q <= ll/\qv = .int .i64 q/\t = .slice a q c5/\eM wr S (.slice a q c5) (x.take q)/\jY wo.heap.size S/\fG wo wr) (fun _ qv _=>ll - (intOf qv).toNat)
  case atStart=>exact ⟨0,Foot.none,_,0,aP _,rfl,rfl,eM.nil _,fun _ h=>h.elim,HOA.out⟩
  obtain ⟨q,S2,a6,c6,hq,rfl,rfl,hO,hF,hs⟩:=hrel
  clear HW B3 B4 B6 HOA
  have HSO:=h! hs
  have HO2:=h! hO
  have HF2:=h! hF
  have HW:Hid (Below w.heap.size w wr):=h! (HWO.out.trans (Below.mono hs HWO.out.size))
  have B3:=h! (B3O.out.later hs)
  have B4:=h! (B4O.out.later hs)
  clear hs hO hF
  obtain ⟨lB3,cB3,fB3⟩:=B3.out
  obtain ⟨lB4,cB4,fB4⟩:=B4.out
  by_cases hmb:m < lb
  ·skip
   obtain ⟨rfl,hbw⟩:=HLW.out (by omega)
   have hrow:=(HW.out.cell (p:=⟨lbk,lo+m,none⟩) hbw).trans (HLC.out m hmb)
   have hri:=HLI.out m hmb
   obtain ⟨ax,cx,hxe⟩:=hri.form
   obtain ⟨xm,hxm⟩ : ∃ xm,xm=(i.arrays.getD m []).length:=⟨_,rfl⟩
   rw [hxe, <-hxm] at hrow
   have hll2:ll=min 4096 xm:=by have h9:=HXL.out;rw [HX.out,aX, <-hxm] at h9;omega
   have hbig:=hri.1.big
   rw [<-hxm] at hbig
   have HXM:=h! hxm
   clear hxm
   by_cases hqx:q < xm
   ·skip
    by_cases hq4:q < 4096
    ·skip
     obtain ⟨xb,xo,xc,hve,hxbl,hxx⟩:=fK hri (by rw [<-HXM.out];omega)
     rw [hxe] at hve
     injection hve with e1 e2 e3
     subst e1
     obtain ⟨z,hz⟩ : ∃ z,z=(i.arrays.getD m []).getD q 0:=⟨_,rfl⟩
     have hzc:=(HW.out.cell (p:=⟨xb,xo+q,none⟩) hxbl).trans (hxx q (by rw [<-HXM.out];exact hqx))
     rw [<-hz] at hzc
     have hZ64:In64 z:=by rw [hz];exact hri.getD q
     have HTK:Hid (x.take (q+1)=x.take q ++ [z]):=h! (by
      have h9:x[q]? = some z:=by
       rw [HX.out,bE,if_pos hq4,hz]
       exact eX _ q (by rw [<-HXM.out];exact hqx)
      rw [bU,h9];rfl)
     have HZ64:=h! hZ64
     have HLN:Hid ((x.take q).length=q):=h! (by rw [aX,HXL.out];omega)
     have HOH:Hid (Holds [] wo.heap.size wr S2 (fun W=>eM W S2 (.slice a6 q c6) (x.take q))):=h! (jF HO2.out HF2.out)
     have hql:q < ll:=by omega
     clear hz hxx e2 e3 hxe hri hZ64 HO2
     --@J
     go_upto_region 21 with (fail)
     have HZC:=h! hzc
     have HROW:=h! hrow
     have hxbr:xb < wr.heap.size:=aL hxbl HW.out.size
     have hlbr:lbk < wr.heap.size:=aL hbw HW.out.size
     clear hzc hrow
     refine gK 10 (fun kz=>match kz with | 9=>.made wr.heap.size (fun b=>.slice (some ⟨b,0,none⟩) 1 1) #[.int .i64 z] | _=>.plain) (by kernel_rfl) (by simp) ?_ (fun ν => ?_)
     ·(intro k;(try dsimp only);split <;> first | exact True.intro | (intro u w1 w2 hu hb;exact hu.below hb))
     simp only [aK,aR,aM,aT]
     iterate 9 (refine Grow.val (v := ?_) rfl rfl (fun wg hbg hdg => ?_) ?_;rotate_left;(focus ((obtain ⟨lg0,cg0,fg0⟩:=B3.out.later hbg);(obtain ⟨lg1,cg1,fg1⟩:=B4.out.later hbg);(have hzw:=(hbg.cell (p:=⟨xb,xo+q,none⟩) hxbr).trans HZC.out;have hrw:=(hbg.cell (p:=⟨lbk,lo+m,none⟩) hlbr).trans HROW.out);clear hbg hdg;first | (go_simp;done) | (go_simp;with_reducible rfl)));simp only [Act.put,aA,aC,aD])
     refine Grow.made (T := ?_) rfl rfl (fun wg hbg hdg => ?_) ?_
     rotate_left
     focus ((obtain ⟨lg0,cg0,fg0⟩:=B3.out.later hbg);(obtain ⟨lg1,cg1,fg1⟩:=B4.out.later hbg);(have hzw:=(hbg.cell (p:=⟨xb,xo+q,none⟩) hxbr).trans HZC.out;have hrw:=(hbg.cell (p:=⟨lbk,lo+m,none⟩) hlbr).trans HROW.out);clear hbg hdg;first | (go_simp;done) | (go_simp;with_reducible rfl))
     simp only [Act.put,Known.val,aA,aC,aD]
     intro wg hb hf hap
     obtain ⟨bBN,hνBN,hBBN,hXBN⟩:=hf 9 (by omega)
     have nBNB3:bBN ≠ w.heap.size:=fun e=>by have:=lB3;omega
     have nB3BN:w.heap.size ≠ bBN:=fun e=>nBNB3 e.symm
     have nBNB4:bBN ≠ w.heap.size+1:=fun e=>by have:=lB4;omega
     have nB4BN:w.heap.size+1 ≠ bBN:=fun e=>nBNB4 e.symm
     simp only [hνBN]
     clear hνBN
     clear hap
     have gBN:=aJ HW.out.size hBBN
     clear hBBN
     clear lB3 cB3 fB3 lB4 cB4 fB4
     replace B3:=h! (B3.out.later hb)
     replace B4:=h! (B4.out.later hb)
     replace HOH:=h! (HOH.out.later hb)
     replace HSO:=h! (HSO.out.later hb)
     replace HW:=h! (HW.out.trans (hb.mono HW.out.size))
     clear hb
     have BN:=h! hXBN
     clear hXBN
     obtain ⟨lB3,cB3,fB3⟩:=B3.out
     obtain ⟨lB4,cB4,fB4⟩:=B4.out
     obtain ⟨lBN,cBN,fBN⟩:=BN.out
     clear hf
     clear lB3 cB3 fB3 lB4 cB4 fB4 lBN cBN fBN
     refine jC rfl _ _ rfl rfl rfl HLN.out HOH.out.now BN.out HZ64.out (by omega) ?_
     intro g1 c1 w10 q1 q2 q3
     have HS10:Hid (fG wo w10):=h! (Below.trans HSO.out (q3.below (Below.size HSO.out) (fun k _ hk=>HF2.out k hk)))
     have HO10:Hid (eM w10 (Foot.one g1) (.slice (some ⟨g1,0,none⟩) (q+1) c1) (x.take (q+1))):=h! (by rw [HTK.out];exact q1)
     have HF10:Hid (jY wo.heap.size (Foot.one g1)):=h! (fun k hk=>by
      cases hk
      rcases q2 with h | h
      ·exact HF2.out _ h
      exact aJ (Below.size HSO.out) h)
     clear q1 q2 q3
     go_wp2
     go_roundw
     case rel=>exact ⟨q+1,_,_,_,hql,by go_num,rfl,HO10.out,HF10.out,HS10.out⟩
     simp [intOf];omega
    skip
    have d3:decide ((q:Int) < 4096)=false:=by simp;omega
    --@K
    go_upto_region 22 with (fail)
    clear hmb hrow d3 hxe
    have HXQ:Hid (eM wr S2 (.slice a6 q c6) x):=h! (by
     have h9:=HO2.out
     rw [aI (by rw [HXL.out];omega)] at h9
     exact h9)
    have HP2:=h! (HPR.out.later HSO.out)
    have HEL:Hid (Holds [] c.base wr S2 (fun W=>OLis W S2 [.slice a6 q c6] x)):=h! ⟨⟨_,rfl,HXQ.out⟩,fun W1 W2 h hk=>OLis.nice.keep h hk,HXQ.out.lt,fun k hk=>aJ HBASE.out (HF2.out k hk),fun _ _ h=>by simp at h⟩
    have HAR2:=h! (HAR.out.later HSO.out)
    have HFK:Hid (S2.off (F 2)):=h! (fun k h1 h2=>by have h3:=HF2.out k h1;have h4:=HPR.out.lt h2;omega)
    have hp1:∀ b ∈ ([] : List Nat),b < c.base:=fun b hb=>by cases hb
    have hp5:∀ o,c.base <= (wr.alloc o).heap.size:=fun o=>by have:=HBASE.out;have:=Below.size HSO.out;simp;omega
    have hp4:∀ u ∈ [Value.slice a6 q c6],u.oneCell' = true:=by simp [Value.oneCell']
    have hp2:m+1 <= 17592186044416:=by omega
    have hp3:(m+1) * 24 <= 140737488355328:=by omega
    obtain ⟨lm,cm,fm⟩:=HP2.out.box
    have k8:wr.cell? ⟨bq,8,none⟩=some av:=cm 8
    clear cm fm
    go_upto_region 16 with (at_builtin;go_loud (refine iJ OLis.nice rfl _ _ 26 22 rfl tW rfl rfl HAL.out (HAR2.out.alloc _) (Box.new _ _ _) rfl (HEL.out.alloc _).now HFK.out HEL.out.base hp1 (hp5 _) hp4 hp2 hp3 ?_);intro v2 w10 SN q1 q2 q3 q4;obtain ⟨g2,c9,rfl⟩:=q4;have hbx:=(HP2.out.alloc _).box.off q3 NBM.out;obtain ⟨lz,cz,fz⟩:=hbx;have HQ1:=h! q1;have HQ2:=h! q2;have HQ3:=h! q3;clear q1 q2 q3)
    clear hp1 hp5 hp4 hp2 hp3 k8 lm lz cz fz
    have HOFW:Hid (Off (F 2) wo w10):=h! ((Off.of_below HSO.out (F 2)).trans ((Off.alloc _ _ _).trans HQ3.out))
    have HSUB:Hid (∀ k,SN k -> F 2 k \/ wo.heap.size <= k):=h! (fun k hk=>by
     rcases HQ2.out k hk with h | h | h
     ·exact .inl h
     ·exact .inr (HF2.out k h)
     have:=Below.size HSO.out
     simp at h
     exact .inr (by omega))
    have HNEW:Hid (RefP c (w10.setCell ⟨bq,8,none⟩ (.slice (some ⟨g2,0,none⟩) (m+1) c9)) bq (eY f i np (m+1)) ⟨0,0,0⟩ false ov (.slice (some ⟨g2,0,none⟩) (m+1) c9) vv xv cv (newF F 2 SN)):=h! (by rw [<-HNXT.out];exact HPR.out.arrs HOFW.out HSUB.out HBASE.out HQ1.out.now)
    have HMK:Hid (ROk c W1 bq D1 (eY f i np (m+1)) ⟨0,0,0⟩ false (w10.setCell ⟨bq,8,none⟩ (.slice (some ⟨g2,0,none⟩) (m+1) c9))):=h! (ROk.trans HOO.out HDD2.out (ROk.of HDF.out HNEW.out ((HOFW.out.mono fun k _ hk=>⟨2,hk⟩).trans ((Off.set w10 ⟨bq,8,none⟩ _).mono fun k _ hk=>⟨0,(HPR.out.b0 k).2 hk⟩)) (iM HSUB.out)))
    clear HQ1 HQ2 HQ3 HOFW HSUB HNEW HXQ HP2 HEL HAR2 HFK
    go_wp2
    go_roundw
    case rel=>exact ⟨m+1,hlt,by go_num,HMK.out⟩
    simp [intOf];omega
   skip
   --@L
   go_upto_region 22 with (fail)
   clear hmb hrow hxe
   have HXQ:Hid (eM wr S2 (.slice a6 q c6) x):=h! (by
    have h9:=HO2.out
    rw [aI (by rw [HXL.out];omega)] at h9
    exact h9)
   have HP2:=h! (HPR.out.later HSO.out)
   have HEL:Hid (Holds [] c.base wr S2 (fun W=>OLis W S2 [.slice a6 q c6] x)):=h! ⟨⟨_,rfl,HXQ.out⟩,fun W1 W2 h hk=>OLis.nice.keep h hk,HXQ.out.lt,fun k hk=>aJ HBASE.out (HF2.out k hk),fun _ _ h=>by simp at h⟩
   have HAR2:=h! (HAR.out.later HSO.out)
   have HFK:Hid (S2.off (F 2)):=h! (fun k h1 h2=>by have h3:=HF2.out k h1;have h4:=HPR.out.lt h2;omega)
   have hp1:∀ b ∈ ([] : List Nat),b < c.base:=fun b hb=>by cases hb
   have hp5:∀ o,c.base <= (wr.alloc o).heap.size:=fun o=>by have:=HBASE.out;have:=Below.size HSO.out;simp;omega
   have hp4:∀ u ∈ [Value.slice a6 q c6],u.oneCell' = true:=by simp [Value.oneCell']
   have hp2:m+1 <= 17592186044416:=by omega
   have hp3:(m+1) * 24 <= 140737488355328:=by omega
   obtain ⟨lm,cm,fm⟩:=HP2.out.box
   have k8:wr.cell? ⟨bq,8,none⟩=some av:=cm 8
   clear cm fm
   go_upto_region 16 with (at_builtin;go_loud (refine iJ OLis.nice rfl _ _ 26 22 rfl tW rfl rfl HAL.out (HAR2.out.alloc _) (Box.new _ _ _) rfl (HEL.out.alloc _).now HFK.out HEL.out.base hp1 (hp5 _) hp4 hp2 hp3 ?_);intro v2 w10 SN q1 q2 q3 q4;obtain ⟨g2,c9,rfl⟩:=q4;have hbx:=(HP2.out.alloc _).box.off q3 NBM.out;obtain ⟨lz,cz,fz⟩:=hbx;have HQ1:=h! q1;have HQ2:=h! q2;have HQ3:=h! q3;clear q1 q2 q3)
   clear hp1 hp5 hp4 hp2 hp3 k8 lm lz cz fz
   have HOFW:Hid (Off (F 2) wo w10):=h! ((Off.of_below HSO.out (F 2)).trans ((Off.alloc _ _ _).trans HQ3.out))
   have HSUB:Hid (∀ k,SN k -> F 2 k \/ wo.heap.size <= k):=h! (fun k hk=>by
    rcases HQ2.out k hk with h | h | h
    ·exact .inl h
    ·exact .inr (HF2.out k h)
    have:=Below.size HSO.out
    simp at h
    exact .inr (by omega))
   have HNEW:Hid (RefP c (w10.setCell ⟨bq,8,none⟩ (.slice (some ⟨g2,0,none⟩) (m+1) c9)) bq (eY f i np (m+1)) ⟨0,0,0⟩ false ov (.slice (some ⟨g2,0,none⟩) (m+1) c9) vv xv cv (newF F 2 SN)):=h! (by rw [<-HNXT.out];exact HPR.out.arrs HOFW.out HSUB.out HBASE.out HQ1.out.now)
   have HMK:Hid (ROk c W1 bq D1 (eY f i np (m+1)) ⟨0,0,0⟩ false (w10.setCell ⟨bq,8,none⟩ (.slice (some ⟨g2,0,none⟩) (m+1) c9))):=h! (ROk.trans HOO.out HDD2.out (ROk.of HDF.out HNEW.out ((HOFW.out.mono fun k _ hk=>⟨2,hk⟩).trans ((Off.set w10 ⟨bq,8,none⟩ _).mono fun k _ hk=>⟨0,(HPR.out.b0 k).2 hk⟩)) (iM HSUB.out)))
   clear HQ1 HQ2 HQ3 HOFW HSUB HNEW HXQ HP2 HEL HAR2 HFK
   go_wp2
   go_roundw
   case rel=>exact ⟨m+1,hlt,by go_num,HMK.out⟩
   simp [intOf];omega
  skip
  have hl0:ll=0:=by
   refine Classical.byContradiction fun h=>hmb (HNE.out (fun h2=>h ?_))
   have h9:=HXL.out
   rw [h2] at h9
   exact h9.symm
  --@M
  go_upto_region 22 with (fail)
  clear hmb
  have HXQ:Hid (eM wr S2 (.slice a6 q c6) x):=h! (by
   have h9:=HO2.out
   rw [aI (by rw [HXL.out];omega)] at h9
   exact h9)
  have HP2:=h! (HPR.out.later HSO.out)
  have HEL:Hid (Holds [] c.base wr S2 (fun W=>OLis W S2 [.slice a6 q c6] x)):=h! ⟨⟨_,rfl,HXQ.out⟩,fun W1 W2 h hk=>OLis.nice.keep h hk,HXQ.out.lt,fun k hk=>aJ HBASE.out (HF2.out k hk),fun _ _ h=>by simp at h⟩
  have HAR2:=h! (HAR.out.later HSO.out)
  have HFK:Hid (S2.off (F 2)):=h! (fun k h1 h2=>by have h3:=HF2.out k h1;have h4:=HPR.out.lt h2;omega)
  have hp1:∀ b ∈ ([] : List Nat),b < c.base:=fun b hb=>by cases hb
  have hp5:∀ o,c.base <= (wr.alloc o).heap.size:=fun o=>by have:=HBASE.out;have:=Below.size HSO.out;simp;omega
  have hp4:∀ u ∈ [Value.slice a6 q c6],u.oneCell' = true:=by simp [Value.oneCell']
  have hp2:m+1 <= 17592186044416:=by omega
  have hp3:(m+1) * 24 <= 140737488355328:=by omega
  obtain ⟨lm,cm,fm⟩:=HP2.out.box
  have k8:wr.cell? ⟨bq,8,none⟩=some av:=cm 8
  clear cm fm
  go_upto_region 16 with (at_builtin;go_loud (refine iJ OLis.nice rfl _ _ 26 22 rfl tW rfl rfl HAL.out (HAR2.out.alloc _) (Box.new _ _ _) rfl (HEL.out.alloc _).now HFK.out HEL.out.base hp1 (hp5 _) hp4 hp2 hp3 ?_);intro v2 w10 SN q1 q2 q3 q4;obtain ⟨g2,c9,rfl⟩:=q4;have hbx:=(HP2.out.alloc _).box.off q3 NBM.out;obtain ⟨lz,cz,fz⟩:=hbx;have HQ1:=h! q1;have HQ2:=h! q2;have HQ3:=h! q3;clear q1 q2 q3)
  clear hp1 hp5 hp4 hp2 hp3 k8 lm lz cz fz
  have HOFW:Hid (Off (F 2) wo w10):=h! ((Off.of_below HSO.out (F 2)).trans ((Off.alloc _ _ _).trans HQ3.out))
  have HSUB:Hid (∀ k,SN k -> F 2 k \/ wo.heap.size <= k):=h! (fun k hk=>by
   rcases HQ2.out k hk with h | h | h
   ·exact .inl h
   ·exact .inr (HF2.out k h)
   have:=Below.size HSO.out
   simp at h
   exact .inr (by omega))
  have HNEW:Hid (RefP c (w10.setCell ⟨bq,8,none⟩ (.slice (some ⟨g2,0,none⟩) (m+1) c9)) bq (eY f i np (m+1)) ⟨0,0,0⟩ false ov (.slice (some ⟨g2,0,none⟩) (m+1) c9) vv xv cv (newF F 2 SN)):=h! (by rw [<-HNXT.out];exact HPR.out.arrs HOFW.out HSUB.out HBASE.out HQ1.out.now)
  have HMK:Hid (ROk c W1 bq D1 (eY f i np (m+1)) ⟨0,0,0⟩ false (w10.setCell ⟨bq,8,none⟩ (.slice (some ⟨g2,0,none⟩) (m+1) c9))):=h! (ROk.trans HOO.out HDD2.out (ROk.of HDF.out HNEW.out ((HOFW.out.mono fun k _ hk=>⟨2,hk⟩).trans ((Off.set w10 ⟨bq,8,none⟩ _).mono fun k _ hk=>⟨0,(HPR.out.b0 k).2 hk⟩)) (iM HSUB.out)))
  clear HQ1 HQ2 HQ3 HOFW HSUB HNEW HXQ HP2 HEL HAR2 HFK
  go_wp2
  go_roundw
  case rel=>exact ⟨m+1,hlt,by go_num,HMK.out⟩
  simp [intOf];omega
 obtain rfl:an=m:=by omega
 have HM2:Hid (RefM c wo bq D2 (iI f i) ⟨0,0,0⟩ false):=h! (by
  have h9:=nP f i
  rw [<-HDIM.out.1, <-HDIM.out.2.1,cU] at h9
  rw [<-h9];exact HMM.out)
 have HND:Hid (∀ k,D2 k -> W3.heap.size <= k):=h! (fun k hk=>by have h9:=HMM.out.base k hk;rwa [HC.out.2.1] at h9)
 have HBW:Hid (c.base <= wo.heap.size):=h! (aJ (HMM.out.base bq HMM.out.b0) (bG (HMM.out.lt bq HMM.out.b0)))
 have HVZ:Hid (∀ n ∈ (iI f i).visits,n <= (iI f i).steps+1):=h! (fun n hn=>by
  have h9:n ∈ List.replicate f.blocks.length 0:=hn
  have:=bX h9
  omega)
 clear HMM HDD2 HOO hlt HM1 HE1
 have HW2:=HW
 have B62:=B6
 --@N
 go_wp2_with fail
 clear lB3 cB3 fB3 lB4 cB4 fB4 lB6 cB6 fB6
 go_loopw [14,15] (fun fr av wr => ∃ (src z:Int) (s1:RunS) (o:OverD) (dead:Bool),fr = .int .i64 src/\av = .int .i64 z/\ROk c wo bq D2 s1 o dead wr/\(dead=false -> o=⟨0,0,0⟩ /\ ∃ a:Nat,z=a/\In f src a/\(∀ o s',Runs f c.fuel src a s1 o s' -> Runs f c.fuel (-1) 0 (iI f i) o s')/\GoodS f c.fuel s1 /\ ∀ n ∈ s1.visits,n <= s1.steps+1)/\(dead=true -> Runs f c.fuel (-1) 0 (iI f i) o s1)) (fun _ _ W=>stepsR W bq fl)
 case atStart=>exact ⟨-1,0,_,⟨0,0,0⟩,false,rfl,rfl,ROk.same HM2.out (Below.refl _ _),fun _=>⟨rfl,0,rfl,.inl ⟨rfl,rfl⟩,fun _ _ h=>h,GoodS.start HCH.out,HVZ.out⟩,fun h=>by cases h⟩
 obtain ⟨src,z,s1,o,dead,rfl,rfl,⟨D3,hm3,ho3,hd3⟩,hgo,hover⟩:=hrel
 clear HW B3 B4 B6
 have HM3:=h! hm3
 have HO3:=h! ho3
 have HD3:=h! hd3
 have HW:Hid (Below w.heap.size w wr):=h! (HW2.out.trans (ho3.below HW2.out.size (fun k _ h=>by have:=HND.out k h;omega)))
 have B6:=h! (B62.out.off ho3 (fun e=>by have:=HND.out _ e;omega))
 have HEV:Hid (EnvR c f wr):=h! (HEW.out.later (ho3.below HBW.out (fun k _ h=>by rw [HC.out.2.1];exact HND.out k h)))
 obtain ⟨ov,av,vv,xv,cv,F,hP,hD⟩:=hm3
 have HPR:=h! hP
 have k16:wr.cell? ⟨bq,16,none⟩=some (.bool dead):=hP.box.at 16 rfl
 have lq:bq < wr.heap.size:=hP.box.lt
 clear ho3 hd3 hP
 cases dead
 ·obtain ⟨rfl,a,rfl,hin,hru,hg1,hv1⟩:=hgo rfl
  obtain ⟨y,hy⟩ : ∃ y,f.blocks[a]? = some y:=⟨_,aB (hin.lt HCH.out)⟩
  have HIN2:=h! hin
  have HRU:=h! hru
  have HG1:=h! hg1
  have HV1:=h! hv1
  have HY:=h! hy
  have HSR:=h! (hin.phis HCH.out HFR.out hy)
  have HVB:Hid (∀ n ∈ s1.visits,n <= 1000000):=h! (fun n hn=>by have:=hv1 n hn;have:=hg1.stp;have:=HC.out.1;have:=HFL.out.2;omega)
  clear hgo hover hin hru hg1 hv1 hy
  --@R
  go_wp2_with fail
  clear k16
  refine (aC6 HM3.out HEV.out HRS.out.1 HRS.out.2.2.2 HCH.out (by have:=HC.out.1;have:=HFL.out.2;omega) HG1.out HVB.out HY.out HSR.out).mono ?_
  rintro e w9 hq
  cases hbl:gP f c.fuel src a s1 with
  | over o s2 =>
   rw [hbl] at hq
   obtain ⟨⟨v,rfl⟩,hk⟩:=hq
   have HRUN:Hid (Runs f c.fuel (-1) 0 (iI f i) o s2):=h! (HRU.out o s2 (Runs.over hbl))
   have HMS:Hid (stepsR w9 bq fl=0):=h! (by obtain ⟨D9,hm9, -, -⟩:=hk;rw [hm9.stepsR];rfl)
   have HMR:Hid (0 < stepsR wr bq fl):=h! (by rw [HM3.out.stepsR];have:=HG1.out.stp;have:=HC.out.1;simp;omega)
   have HOK:=h! (ROk.trans HO3.out HD3.out hk)
   clear hk hbl
   go_wp2
   go_roundw
   case rel=>exact ⟨a,v,s2,o,true,rfl,rfl,HOK.out,(fun h=>by cases h),fun _=>HRUN.out⟩
   rw [HMS.out];exact HMR.out
  | go to s2 =>
   rw [hbl] at hq
   obtain ⟨rfl,hk⟩:=hq
   have hgo:=rA HCH.out HG1.out HY.out HSR.out hbl
   obtain ⟨t,rfl,ht⟩:=hgo.to
   have HGO:=h! hgo
   have HT:=h! ht
   have HBL:=h! hbl
   have HVN:Hid (∀ n ∈ s2.visits,n <= s2.steps+1):=h! (fun n hn=>by
    rw [hgo.visits] at hn
    obtain ⟨i,hi⟩:=bP hn
    rw [eC] at hi
    have hs:=hgo.steps
    cases hq:s1.visits[i]? with
    | none=>rw [hq] at hi;simp at hi
    | some q =>
     rw [hq] at hi
     have:=HV1.out q (aG hq)
     simp at hi
     split at hi <;> omega)
   have HMS:Hid (stepsR w9 bq fl < stepsR wr bq fl):=h! (by
    obtain ⟨D9,hm9, -, -⟩:=hk
    rw [hm9.stepsR,HM3.out.stepsR]
    have:=hgo.steps
    have:=hgo.good.stp
    have:=HC.out.1
    simp
    omega)
   have HOK:=h! (ROk.trans HO3.out HD3.out hk)
   have hal:a < f.blocks.length:=HIN2.out.lt HCH.out
   clear hk hbl hgo ht
   go_wp2
   go_roundw
   case rel=>exact ⟨a,t,s2,⟨0,0,0⟩,false,rfl,rfl,HOK.out,fun _=>⟨rfl,t,rfl,.inr ⟨a,rfl,hal,HT.out⟩,fun o s' h=>HRU.out o s' (Runs.go HBL.out (by simpa using h)),HGO.out.good,HVN.out⟩,fun h=>by cases h⟩
   exact HMS.out
 have HRUN:=h! (hover rfl)
 clear hgo hover
 obtain ⟨a1,c1,hov⟩:=HPR.out.out.ints.form
 obtain ⟨a2,c2,hvv⟩:=HPR.out.vis.ints.form
 obtain ⟨vs3,a3,c3,b3,o3,hav, -, -, -, -, -, -⟩:=HPR.out.arr.lists.parts
 subst hov hvv hav
 have HOZ:Hid (OffF (fun k=>k=w.heap.size+1+1) wr wr):=h! (Off.refl _ _)
 have HF9:Hid (∀ j k,F j k -> k ≠ w.heap.size+1+1):=h! (fun j k hk e=>by have:=HPR.out.base j k hk;have:=HC.out.2.1;omega)
 obtain ⟨lm,cm,fm⟩:=HPR.out.box
 clear k16
 obtain ⟨lB6,cB6,fB6⟩:=B6.out
 --@T
 go_wp2_with fail
 clear lB6 cB6 fB6
 have hO_:=((((((((Only.set wr (w.heap.size+1+1) 0 (.int .i64 o.how)).put 1 (.int .i64 o.value)).put 2 (.int .i64 o.trap)).put 3 (.slice a1 s1.out.length c1)).put 4 (.slice a3 s1.arrays.length c3)).put 5 (.int .i64 s1.steps)).put 6 (.int .i64 s1.checks)).put 7 (.slice a2 (natI s1.visits).length c2))
 replace HOZ:=h! ((((((((HOZ.out.other (p:=⟨w.heap.size+1+1,0,none⟩) (.int .i64 o.how) (by simp)).other (p:=⟨w.heap.size+1+1,1,none⟩) (.int .i64 o.value) (by simp)).other (p:=⟨w.heap.size+1+1,2,none⟩) (.int .i64 o.trap) (by simp)).other (p:=⟨w.heap.size+1+1,3,none⟩) (.slice a1 s1.out.length c1) (by simp)).other (p:=⟨w.heap.size+1+1,4,none⟩) (.slice a3 s1.arrays.length c3) (by simp)).other (p:=⟨w.heap.size+1+1,5,none⟩) (.int .i64 s1.steps) (by simp)).other (p:=⟨w.heap.size+1+1,6,none⟩) (.int .i64 s1.checks) (by simp)).other (p:=⟨w.heap.size+1+1,7,none⟩) (.slice a2 (natI s1.visits).length c2) (by simp))
 replace HW:=h! (hO_.2.2 HW.out (by first | assumption | omega | (have:=HW.out.size;omega) | (simp;done) | (simp;omega)))
 replace B6:=h! (Box.to (A':=#[(.int .i64 o.how),(.int .i64 o.value),(.int .i64 o.trap),(.slice a1 s1.out.length c1),(.slice a3 s1.arrays.length c3),(.int .i64 s1.steps),(.int .i64 s1.checks),(.slice a2 (natI s1.visits).length c2)]) ((((((((B6.out.set 0 (.int .i64 o.how)).set 1 (.int .i64 o.value)).set 2 (.int .i64 o.trap)).set 3 (.slice a1 s1.out.length c1)).set 4 (.slice a3 s1.arrays.length c3)).set 5 (.int .i64 s1.steps)).set 6 (.int .i64 s1.checks)).set 7 (.slice a2 (natI s1.visits).length c2)) (by first | rfl | simp))
 clear hO_
 generalize ((((((((wr.setCell ⟨w.heap.size+1+1,0,none⟩ (.int .i64 o.how)).setCell ⟨w.heap.size+1+1,1,none⟩ (.int .i64 o.value)).setCell ⟨w.heap.size+1+1,2,none⟩ (.int .i64 o.trap)).setCell ⟨w.heap.size+1+1,3,none⟩ (.slice a1 s1.out.length c1)).setCell ⟨w.heap.size+1+1,4,none⟩ (.slice a3 s1.arrays.length c3)).setCell ⟨w.heap.size+1+1,5,none⟩ (.int .i64 s1.steps)).setCell ⟨w.heap.size+1+1,6,none⟩ (.int .i64 s1.checks)).setCell ⟨w.heap.size+1+1,7,none⟩ (.slice a2 (natI s1.visits).length c2))=wz at *
 obtain ⟨lB6,cB6,fB6⟩:=B6.out
 have HPZ:=h! (HPR.out.keep HOZ.out (fun j k hk e=>HF9.out j k hk e))
 refine bodyPost_ret (v:=.agg #[.int .i64 o.how,.int .i64 o.value,.int .i64 o.trap,.slice a1 s1.out.length c1,.slice a3 s1.arrays.length c3,.int .i64 s1.steps,.int .i64 s1.checks,.slice a2 (natI s1.visits).length c2]) (by simp [results,Tryz.results14,go_sem,cB6]) rfl ⟨_,qD o s1,rfl,.inr ⟨HCH.out,HFR.out,by omega,o,s1,by rw [HFL.out.1, <-HC.out.1];exact HRUN.out,rfl⟩,HPZ.out.trace.val,HW.out⟩
end Go.Proofs.YtcmflfkpeodicaaGreat
