/- Part 50. -/
import Derived.Laws.Shifts
import Derived.Laws.EntriesVeiled
import Derived.WalkSmall
import Derived.Defers
import Derived.Recover
import Derived.Test.YtgmhnepmkaonaaaGreatQA47
import Derived.Test.YtgmhnepmkaonaaaGreatQA6
import Derived.Test.YtgmhnepmkaonaaaGreatQA36
import Derived.Test.YtgmhnepmkaonaaaGreatQA28
import Derived.Test.YtgmhnepmkaonaaaGreatQA2
import Derived.Test.YtgmhnepmkaonaaaGreatQA37
import Derived.Test.YtgmhnepmkaonaaaGreatQA44
import Derived.Test.YtgmhnepmkaonaaaGreatQA42
namespace Go.Proofs.YtgmhnepmkaonaaaGreat
set_option maxHeartbeats 6400000
set_option linter.unusedSimpArgs false
set_option linter.unusedVariables false
open Go.RowKit
section
open Classical
def OddE (f:FuncD) (O:List Nat) (b p:Nat):Prop:=O.idxOf b <= O.idxOf p /\ ¬ OverP f b p
noncomputable def oddB (f:FuncD) (O:List Nat) (b:Nat):Bool:=(predN f f.blocks.length 0 b).any fun p=>decide (OddE f O b p)
noncomputable def oddJ (f:FuncD) (O:List Nat) (j:Nat):List Nat:=(List.range j).filter (oddB f O)
noncomputable def oddF (f:FuncD) (O:List Nat):List Nat:=oddJ f O f.blocks.length
theorem oddJ_yes {f:FuncD} {O:List Nat} {j:Nat} (h:oddB f O j=true):oddJ f O (j+1)=oddJ f O j ++ [j]:=by
 unfold oddJ
 rw [List.range_succ,List.filter_append]
 congr 1
 simp [h]
theorem oddJ_no {f:FuncD} {O:List Nat} {j:Nat} (h:oddB f O j=false):oddJ f O (j+1)=oddJ f O j:=by
 unfold oddJ
 rw [List.range_succ,List.filter_append]
 simp [h]
theorem oddJ_len (f:FuncD) (O:List Nat) (j:Nat):(oddJ f O j).length <= j:=by
 unfold oddJ
 exact Nat.le_trans (List.length_filter_le _ _) (by rw [List.length_range];exact Nat.le_refl _)
end
theorem place_in {f:FuncD} {O:List Nat} (hO:IsOrder f O) (hall:∀ d,d < f.blocks.length -> Way (toB f) (-1) d) {b:Nat} (hb:b < f.blocks.length):(placeI f.blocks.length O O.length).getD b 0=((O.idxOf b:Nat):Int):=by
 rw [List.getD_eq_getElem?_getD,placeI_in hb ((hO.facts.2.1 b).2 (hall b hb))];rfl
private theorem Since.alloc {w0 W:World} (h:Since w0 W) (o:Obj):Since w0 (W.alloc o):=h.later ((Below.refl _ _).alloc (Nat.le_refl _) o)
section
open Classical
noncomputable def oddQ (f:FuncD) (O:List Nat) (b p:Nat):Bool:=decide (OddE f O b p)
theorem oddQ_yes {f:FuncD} {O:List Nat} {b p:Nat}:oddQ f O b p=true ↔ OddE f O b p:=by unfold oddQ;simp
theorem oddB_any (f:FuncD) (O:List Nat) (b:Nat):((natI (predN f f.blocks.length 0 b)).any fun x=>oddQ f O b x.toNat)=oddB f O b:=by
 unfold natI oddB oddQ
 rw [List.any_map]
 congr 1
end
theorem oddEnters:Enters Tryz.prog 75:=enters_of Tryz.func75 (by kernel_rfl) rfl
set_option maxRecDepth 100000 in
theorem oddFn {f:FuncD} {w:World} {bn bs bt bg lg lcap np cp cb:Nat} {A1 A2 lsv:Value} {ap ab:Option Addr} {ar ce:Int} {pv ov lv:Value} {g:Array Value} {O:List Nat} {I:Nat -> Option Nat}
  (hN:NestV f w bn bs bt bg lg lcap A1 A2 lsv ap ab np cp cb ar ce pv ov lv) (hT:TreeM f w bt bg lg lcap g pv ov lv O I) (hO:IsOrder f O) (hD:DomI f O I) (hall:∀ d,d < f.blocks.length -> Way (toB f) (-1) d) (h512:f.blocks.length <= 512)
  {b p:Nat} (hb:b < f.blocks.length) (hp:p < f.blocks.length) {b4 b7:Nat} (h4:Box w b4 #[.pointer (some ⟨bn,0,none⟩)]) (h7:Box w b7 #[.int .i64 b]) :
  Calls Tryz.prog 75 #[.int .i64 p,.pointer (some ⟨b4,0,none⟩),.pointer (some ⟨b7,0,none⟩)] w fun e w'=>e = .returned (.bool (oddQ f O b p))/\Below w.heap.size w w':=by
 obtain ⟨nb,hnb⟩ : ∃ nb,nb=f.blocks.length:=⟨_,rfl⟩
 have HNB:=hd hnb
 have hpl:=placeI_len f.blocks.length O O.length
 obtain ⟨gb,go_,gc,he,hgl, -, -,hgx⟩:=ints_cells hT.place (by rw [hpl];omega)
 rw [hpl] at he hgx
 subst he
 have xb:=hgx b hb
 have xp:=hgx p hp
 rw [place_in hO hall hb] at xb
 rw [place_in hO hall hp] at xp
 obtain ⟨ib,hib⟩ : ∃ ib,ib=O.idxOf b:=⟨_,rfl⟩
 obtain ⟨ip,hip⟩ : ∃ ip,ip=O.idxOf p:=⟨_,rfl⟩
 rw [<-hib] at xb
 rw [<-hip] at xp
 have HIB:=hd hib
 have HIP:=hd hip
 have XB:=hd xb
 have XP:=hd xp
 have HT:=hd hT
 have HO:=hd hO
 have HD:=hd hD
 have H512:=hd h512
 have HBL:=hd hb
 have HPL:=hd hp
 have B4:=hd h4
 have B7:=hd h7
 have BN:=hd hN.n
 have BS:=hd hN.s
 have BT:=hd hN.t
 have BG:=hd hN.g
 rw [<-hnb] at BT BG hb hp h512
 have HW:Hid (Below w.heap.size w w):=hd (Below.refl _ _)
 clear hN hT hO hD hall h4 h7 hgx xb xp hib hip hpl hnb
 go_enter Tryz.func75,Tryz.ntmps75
 obtain ⟨lB4,cB4,fB4⟩:=B4.out
 obtain ⟨lB7,cB7,fB7⟩:=B7.out
 obtain ⟨lBN,cBN,fBN⟩:=BN.out
 obtain ⟨lBS,cBS,fBS⟩:=BS.out
 obtain ⟨lBT,cBT,fBT⟩:=BT.out
 obtain ⟨lBG,cBG,fBG⟩:=BG.out
 go_upto_region 1 with (fail)
 by_cases hle:ib <= ip
 ·obtain ⟨ro,hro⟩ : ∃ ro:Bool,(ro=true ↔ OverP f b p):=⟨@decide (OverP f b p) (Classical.propDecidable _),by simp⟩
  have HRO:=hd hro
  have HRES:Hid (oddQ f O b p = !ro):=hd (by
   cases ro
   ·rw [oddQ_yes.2 ⟨by rw [<-HIB.out, <-HIP.out];exact hle,fun h=>by have:=HRO.out.2 h;cases this⟩];rfl
   ·cases hq:oddQ f O b p
    ·rfl
    ·exact absurd (HRO.out.1 rfl) (oddQ_yes.1 hq).2)
  have ht:decide ((ib:Int) <= (ip:Int))=true:=by simpa using hle
  clear hro
  refine wp_region_grow 47 (fun kz=>match kz with | 43=>.const (.bool ro) | _=>.plain) (by kernel_rfl) (by kernel_rfl) ?_ (fun ν => ?_)
  ·(intro k;(try dsimp only);split <;> first | exact True.intro | (intro u w1 w2 hu hb;exact hu.below hb))
  simp only [List.take_succ_cons,List.take_zero,List.drop_succ_cons,List.drop_zero]
  iterate 43 (refine Grow.val (v := ?_) rfl rfl (fun wg hbg hdg => ?_) ?_;rotate_left;(focus ((obtain ⟨lg0,cg0,fg0⟩:=B4.out.later hbg);(obtain ⟨lg1,cg1,fg1⟩:=B7.out.later hbg);(obtain ⟨lg2,cg2,fg2⟩:=BN.out.later hbg);(obtain ⟨lg3,cg3,fg3⟩:=BS.out.later hbg);(obtain ⟨lg4,cg4,fg4⟩:=BT.out.later hbg);(obtain ⟨lg5,cg5,fg5⟩:=BG.out.later hbg);(have hWg:=HW.out.trans (hbg.mono HW.out.size);have xb:=(hWg.cell (p:=⟨gb,go_+b,none⟩) hgl).trans XB.out;have xp:=(hWg.cell (p:=⟨gb,go_+p,none⟩) hgl).trans XP.out);clear hbg hdg;first | (go_simp;done) | (go_simp;with_reducible rfl)));simp only [Act.put,List.setIfInBounds_toArray,List.set_cons_zero,List.set_cons_succ])
  refine Grow.call (f := ?_) (args := ?_) rfl (fun wg => ?_) (fun wg hbg hdg => ?_) ?_
  rotate_left 2
  focus (first | (go_simp;done) | (go_simp;refine And.intro ?_ ?_ <;> with_reducible rfl) | (go_simp;with_reducible rfl))
  focus (exact (treeOver (a:=b) (b:=p) (HT.out.later (HW.out.trans (hbg.mono HW.out.size))) HO.out HD.out H512.out HBL.out HPL.out).mono (fun e w2 ⟨r,he,hr,hw⟩=>⟨.bool ro,by rw [he,(Bool.eq_iff_iff.2 (hr.trans HRO.out.symm):r=ro)],rfl,hw ▸ Below.refl _ _⟩))
  simp only [Act.put,Known.val,List.setIfInBounds_toArray,List.set_cons_zero,List.set_cons_succ]
  iterate 3 (refine Grow.val (v := ?_) rfl rfl (fun wg hbg hdg => ?_) ?_;rotate_left;(focus ((obtain ⟨lg0,cg0,fg0⟩:=B4.out.later hbg);(obtain ⟨lg1,cg1,fg1⟩:=B7.out.later hbg);(obtain ⟨lg2,cg2,fg2⟩:=BN.out.later hbg);(obtain ⟨lg3,cg3,fg3⟩:=BS.out.later hbg);(obtain ⟨lg4,cg4,fg4⟩:=BT.out.later hbg);(obtain ⟨lg5,cg5,fg5⟩:=BG.out.later hbg);(have hWg:=HW.out.trans (hbg.mono HW.out.size);have xb:=(hWg.cell (p:=⟨gb,go_+b,none⟩) hgl).trans XB.out;have xp:=(hWg.cell (p:=⟨gb,go_+p,none⟩) hgl).trans XP.out);clear hbg hdg;first | (go_simp;done) | (go_simp;with_reducible rfl)));simp only [Act.put,List.setIfInBounds_toArray,List.set_cons_zero,List.set_cons_succ])
  intro wg hb hf hap
  clear hap
  clear lB4 cB4 fB4 lB7 cB7 fB7 lBN cBN fBN lBS cBS fBS lBT cBT fBT lBG cBG fBG
  replace B4:=hd (B4.out.later hb)
  replace B7:=hd (B7.out.later hb)
  replace BN:=hd (BN.out.later hb)
  replace BS:=hd (BS.out.later hb)
  replace BT:=hd (BT.out.later hb)
  replace BG:=hd (BG.out.later hb)
  replace HW:=hd (HW.out.trans (hb.mono HW.out.size))
  clear hb
  obtain ⟨lB4,cB4,fB4⟩:=B4.out
  obtain ⟨lB7,cB7,fB7⟩:=B7.out
  obtain ⟨lBN,cBN,fBN⟩:=BN.out
  obtain ⟨lBS,cBS,fBS⟩:=BS.out
  obtain ⟨lBT,cBT,fBT⟩:=BT.out
  obtain ⟨lBG,cBG,fBG⟩:=BG.out
  clear hf ht
  go_wp2
  go_ret
  rw [HRES.out]
  exact ⟨rfl,HW.out⟩
 ·have HRES:Hid (oddQ f O b p=false):=hd (by
   cases hq:oddQ f O b p
   ·rfl
   ·exact absurd (by rw [HIB.out,HIP.out];exact (oddQ_yes.1 hq).1) hle)
  have ht:decide ((ib:Int) <= (ip:Int))=false:=by simpa using hle
  refine wp_region_grow 47 (fun _=>.plain) (by kernel_rfl) (by kernel_rfl) ?_ (fun ν => ?_)
  ·exact fun _=>trivial
  simp only [List.take_succ_cons,List.take_zero,List.drop_succ_cons,List.drop_zero]
  iterate 34 (refine Grow.val (v := ?_) rfl rfl (fun wg hbg hdg => ?_) ?_;rotate_left;(focus ((obtain ⟨lg0,cg0,fg0⟩:=B4.out.later hbg);(obtain ⟨lg1,cg1,fg1⟩:=B7.out.later hbg);(obtain ⟨lg2,cg2,fg2⟩:=BN.out.later hbg);(obtain ⟨lg3,cg3,fg3⟩:=BS.out.later hbg);(obtain ⟨lg4,cg4,fg4⟩:=BT.out.later hbg);(obtain ⟨lg5,cg5,fg5⟩:=BG.out.later hbg);(have hWg:=HW.out.trans (hbg.mono HW.out.size);have xb:=(hWg.cell (p:=⟨gb,go_+b,none⟩) hgl).trans XB.out;have xp:=(hWg.cell (p:=⟨gb,go_+p,none⟩) hgl).trans XP.out);clear hbg hdg;first | (go_simp;done) | (go_simp;with_reducible rfl)));simp only [Act.put,List.setIfInBounds_toArray,List.set_cons_zero,List.set_cons_succ])
  iterate 11 (refine Grow.skip rfl rfl ?_;simp only [Act.put,List.setIfInBounds_toArray,List.set_cons_zero,List.set_cons_succ])
  iterate 2 (refine Grow.val (v := ?_) rfl rfl (fun wg hbg hdg => ?_) ?_;rotate_left;(focus ((obtain ⟨lg0,cg0,fg0⟩:=B4.out.later hbg);(obtain ⟨lg1,cg1,fg1⟩:=B7.out.later hbg);(obtain ⟨lg2,cg2,fg2⟩:=BN.out.later hbg);(obtain ⟨lg3,cg3,fg3⟩:=BS.out.later hbg);(obtain ⟨lg4,cg4,fg4⟩:=BT.out.later hbg);(obtain ⟨lg5,cg5,fg5⟩:=BG.out.later hbg);(have hWg:=HW.out.trans (hbg.mono HW.out.size);have xb:=(hWg.cell (p:=⟨gb,go_+b,none⟩) hgl).trans XB.out;have xp:=(hWg.cell (p:=⟨gb,go_+p,none⟩) hgl).trans XP.out);clear hbg hdg;first | (go_simp;done) | (go_simp;with_reducible rfl)));simp only [Act.put,List.setIfInBounds_toArray,List.set_cons_zero,List.set_cons_succ])
  intro wg hb hf hap
  clear hap
  clear lB4 cB4 fB4 lB7 cB7 fB7 lBN cBN fBN lBS cBS fBS lBT cBT fBT lBG cBG fBG
  replace B4:=hd (B4.out.later hb)
  replace B7:=hd (B7.out.later hb)
  replace BN:=hd (BN.out.later hb)
  replace BS:=hd (BS.out.later hb)
  replace BT:=hd (BT.out.later hb)
  replace BG:=hd (BG.out.later hb)
  replace HW:=hd (HW.out.trans (hb.mono HW.out.size))
  clear hb
  obtain ⟨lB4,cB4,fB4⟩:=B4.out
  obtain ⟨lB7,cB7,fB7⟩:=B7.out
  obtain ⟨lBN,cBN,fBN⟩:=BN.out
  obtain ⟨lBS,cBS,fBS⟩:=BS.out
  obtain ⟨lBT,cBT,fBT⟩:=BT.out
  obtain ⟨lBG,cBG,fBG⟩:=BG.out
  clear hf ht
  go_wp2
  go_ret
  rw [HRES.out]
  exact ⟨rfl,HW.out⟩
def OddR (f : FuncD) (w : World) (e : Ending) (w' : World) : Prop := Below w.heap.size w w' ∧
  ((¬ (checkF f = 0 ∧ FaultR f 0 0) ∧ ∃ k : Int, (k ≠ 0 ∧ ErrK f k) ∧ e = .returned (.tuple #[.slice none 0 0, .int .i64 k])) ∨
   (checkF f = 0 ∧ FaultR f 0 0 ∧ ∃ (O : List Nat) (a : Option Addr) (c : Nat), IsOrder f O ∧ e = .returned (.tuple #[.slice a (oddF f O).length c, .int .i64 0]) ∧ Ints w' (.slice a (oddF f O).length c) (natI (oddF f O))))
set_option maxRecDepth 100000 in
theorem loopsOdd {w:World} {v:Value} {f:FuncD} (hv:FuncV w v f):Calls Tryz.prog 36 #[v] w (OddR f w):=by
 have hmf:∀ (fn:Fn) (first cap:Array Value) (w:World),(Instr.makeFunc fn first cap).run Tryz.prog w = .ok (.func fn first cap) w:=fun _ _ _ _=>rfl
 have HV:=hd hv
 obtain ⟨ap,cp,ab,cb,rfl, -, -, -,hbk⟩:=hv.form
 obtain ⟨nb,hnb⟩ : ∃ nb,nb=f.blocks.length:=⟨_,rfl⟩
 have HNB:=hd hnb
 rw [<-hnb] at HV
 rw [<-hnb]
 clear hv hbk hnb
 go_enter Tryz.func36,Tryz.ntmps36
 go_upto_region 1 with (fail)
 have B1:Hid (Box (w.alloc (.cells #[.slice ap f.params.length cp,.int .i64 f.arrays,.int .i64 f.cells,.slice ab nb cb] 25)) (w.heap.size) #[.slice ap f.params.length cp,.int .i64 f.arrays,.int .i64 f.cells,.slice ab nb cb]):=hd (by simpa using (Box.new w #[.slice ap f.params.length cp,.int .i64 f.arrays,.int .i64 f.cells,.slice ab nb cb] 25))
 have HW:Hid (Below w.heap.size w (w.alloc (.cells #[.slice ap f.params.length cp,.int .i64 f.arrays,.int .i64 f.cells,.slice ab nb cb] 25))):=hd ((Below.refl _ _).alloc (Nat.le_refl _) _)
 generalize (w.alloc (.cells #[.slice ap f.params.length cp,.int .i64 f.arrays,.int .i64 f.cells,.slice ab nb cb] 25))=wv at *
 obtain ⟨lB1,cB1,fB1⟩:=B1.out
 go_wp2_with fail
 refine (loopsOpen (HV.out.below HW.out)).mono ?_
 rintro e w2 ⟨hb,⟨hc0,rfl⟩ | ⟨hc0,b,k,hF,hk,rfl⟩ | ⟨hc0,hF,bn,bs,bt,bg,lg,lcap,A1,A2,ap2,ab2,np,cp2,cb2,ar,ce,g,pv,ov,lv,O,I,a,c,S,rfl,hO,hD,hN,hT,hL,hS⟩⟩
 ·have hq:(checkF f != 0)=true:=by simpa using hc0
  have HC:=hd hc0
  obtain ⟨c0,hc⟩ : ∃ c0,c0=checkF f:=⟨_,rfl⟩
  rw [<-hc] at hq ⊢
  have HCC:=hd hc
  clear hc0 hc
  clear lB1 cB1 fB1
  replace B1:=hd (B1.out.later hb)
  replace HW:=hd (HW.out.trans (hb.mono HW.out.size))
  clear hb
  obtain ⟨lB1,cB1,fB1⟩:=B1.out
  go_upto_region 2 with (fail)
  have nB4B1:w2.heap.size ≠ w.heap.size:=fun e=>by have:=lB1;omega
  have nB1B4:w.heap.size ≠ w2.heap.size:=fun e=>nB4B1 e.symm
  have B1_:Box (w2.alloc (.cells #[.pointer none] 121)) (w.heap.size) #[.slice ap f.params.length cp,.int .i64 f.arrays,.int .i64 f.cells,.slice ab nb cb]:=by simpa using (B1.out.alloc _)
  have B4_:Box (w2.alloc (.cells #[.pointer none] 121)) (w2.heap.size) #[.pointer none]:=by simpa using (Box.new w2 #[.pointer none] 121)
  have HW_:Below w.heap.size w (w2.alloc (.cells #[.pointer none] 121)):=(HW.out.alloc (by first | exact Nat.le_refl _ | exact HW.out.size | (simp only [World.size_alloc,World.size_setCell];have:=HW.out.size;omega)) _)
  clear lB1 cB1 fB1
  clear B1 HW
  generalize (w2.alloc (.cells #[.pointer none] 121))=w3 at *
  have B1:=hd B1_
  clear B1_
  have B4:=hd B4_
  clear B4_
  have HW:=hd HW_
  clear HW_
  obtain ⟨lB1,cB1,fB1⟩:=B1.out
  obtain ⟨lB4,cB4,fB4⟩:=B4.out
  go_wp2
  go_ret2
  refine ⟨HW.out,.inl ⟨fun h=>HC.out h.1,c0,⟨by rw [HCC.out];exact HC.out,.inl ⟨HC.out,HCC.out⟩⟩,rfl⟩⟩
 ·have hq:(k != 0)=true:=by simpa using hk
  have HC:Hid (¬ FaultR f 0 0/\k ≠ 0):=hd ⟨fun h=>hk (fault_one hF h).2,hk⟩
  have HK:Hid (ErrK f k):=hd (.inr ⟨hc0,b,hF⟩)
  clear hc0 hF hk
  clear lB1 cB1 fB1
  replace B1:=hd (B1.out.later hb)
  replace HW:=hd (HW.out.trans (hb.mono HW.out.size))
  clear hb
  obtain ⟨lB1,cB1,fB1⟩:=B1.out
  go_upto_region 2 with (fail)
  have nB4B1:w2.heap.size ≠ w.heap.size:=fun e=>by have:=lB1;omega
  have nB1B4:w.heap.size ≠ w2.heap.size:=fun e=>nB4B1 e.symm
  have B1_:Box (w2.alloc (.cells #[.pointer none] 121)) (w.heap.size) #[.slice ap f.params.length cp,.int .i64 f.arrays,.int .i64 f.cells,.slice ab nb cb]:=by simpa using (B1.out.alloc _)
  have B4_:Box (w2.alloc (.cells #[.pointer none] 121)) (w2.heap.size) #[.pointer none]:=by simpa using (Box.new w2 #[.pointer none] 121)
  have HW_:Below w.heap.size w (w2.alloc (.cells #[.pointer none] 121)):=(HW.out.alloc (by first | exact Nat.le_refl _ | exact HW.out.size | (simp only [World.size_alloc,World.size_setCell];have:=HW.out.size;omega)) _)
  clear lB1 cB1 fB1
  clear B1 HW
  generalize (w2.alloc (.cells #[.pointer none] 121))=w3 at *
  have B1:=hd B1_
  clear B1_
  have B4:=hd B4_
  clear B4_
  have HW:=hd HW_
  clear HW_
  obtain ⟨lB1,cB1,fB1⟩:=B1.out
  obtain ⟨lB4,cB4,fB4⟩:=B4.out
  go_wp2
  go_ret2
  exact ⟨HW.out,.inl ⟨fun h=>HC.out.1 h.2,k,⟨HC.out.2,HK.out⟩,rfl⟩⟩
 ·have HC:=hd (And.intro hc0 hF)
  have hall:∀ d,d < f.blocks.length -> Way (toB f) (-1) d:=by
   rcases hF with ⟨_,_,_,_,_,h⟩ | ⟨h,_⟩
   ·cases h
   ·exact h
  have HALL:=hd hall
  obtain ⟨hn1,hn2⟩:=formB_nb (check_fine hc0).1
  rw [<-HNB.out] at hn1 hn2
  have HO:=hd hO
  have HD:=hd hD
  have HN:=hd hN
  have HT:=hd hT
  obtain ⟨vs,pa,pc,pb,po,rfl, -, -, -,hpa,hpx,hpi⟩:=hN.p.parts
  have hpl:(predsF f).length=f.blocks.length:=predI_len _ _ _
  rw [hpl] at hpa hpx hpi HN HT
  obtain ⟨rfl,hpbl⟩:=hpa (by rw [<-HNB.out];omega)
  rw [<-HNB.out] at hpx hpi
  have HPX:Hid (∀ j,j < nb -> w2.cell? ⟨pb,po+j,none⟩=some (vs.getD j undef)/\Ints w2 (vs.getD j undef) (natI (predN f f.blocks.length 0 j))):=hd (fun j hj=>by
   refine ⟨hpx j hj, ?_⟩
   have h9:=hpi j hj
   have h8:(predsF f).getD j []=natI (predN f f.blocks.length 0 j):=by
    unfold predsF
    rw [List.getD_eq_getElem?_getD,predI_at (by rw [<-HNB.out];exact hj)];rfl
   rwa [h8] at h9)
  clear hc0 hF hO hD hN hT hL hS hall hpl hpa hpx hpi
  clear lB1 cB1 fB1
  replace B1:=hd (B1.out.later hb)
  replace HW:=hd (HW.out.trans (hb.mono HW.out.size))
  clear hb
  obtain ⟨lB1,cB1,fB1⟩:=B1.out
  go_upto_region 2 with (fail)
  have hwb:Hid (Below w2.heap.size w2 (w2.alloc (.cells #[.pointer (some ⟨bn,0,none⟩)] 121))):=hd ((Below.refl _ _).alloc (Nat.le_refl _) _)
  have nBPB1:w2.heap.size ≠ w.heap.size:=fun e=>by have:=lB1;omega
  have nB1BP:w.heap.size ≠ w2.heap.size:=fun e=>nBPB1 e.symm
  have B1_:Box (w2.alloc (.cells #[.pointer (some ⟨bn,0,none⟩)] 121)) (w.heap.size) #[.slice ap f.params.length cp,.int .i64 f.arrays,.int .i64 f.cells,.slice ab nb cb]:=by simpa using (B1.out.alloc _)
  have BP_:Box (w2.alloc (.cells #[.pointer (some ⟨bn,0,none⟩)] 121)) (w2.heap.size) #[.pointer (some ⟨bn,0,none⟩)]:=by simpa using (Box.new w2 #[.pointer (some ⟨bn,0,none⟩)] 121)
  have HW_:Below w.heap.size w (w2.alloc (.cells #[.pointer (some ⟨bn,0,none⟩)] 121)):=(HW.out.alloc (by first | exact Nat.le_refl _ | exact HW.out.size | (simp only [World.size_alloc,World.size_setCell];have:=HW.out.size;omega)) _)
  clear lB1 cB1 fB1
  clear B1 HW
  generalize (w2.alloc (.cells #[.pointer (some ⟨bn,0,none⟩)] 121))=w3 at *
  have B1:=hd B1_
  clear B1_
  have BP:=hd BP_
  clear BP_
  have HW:=hd HW_
  clear HW_
  obtain ⟨lB1,cB1,fB1⟩:=B1.out
  obtain ⟨lBP,cBP,fBP⟩:=BP.out
  have H23:Hid (Below w2.heap.size w2 w3):=hd hwb.out
  clear hwb
  go_wp2_with fail
  clear lB1 cB1 fB1 lBP cBP fBP
  have BP3:=BP
  have HW3:=HW
  clear B1 BP HW
  go_loopw [6,19] (fun bv iv wr => ∃ (j:Nat) (a:Option Addr) (c:Nat) (S:Foot),j <= nb/\bv = .slice a (oddJ f O j).length c/\iv = .int .i64 j/\OInts wr S (.slice a (oddJ f O j).length c) (natI (oddJ f O j))/\(∀ q,S q -> w3.heap.size <= q)/\Below w3.heap.size w3 wr) (fun _ iv _=>nb - (intOf iv).toNat)
  case atStart=>exact ⟨0,none,0,Foot.none,Nat.zero_le _,rfl,rfl,OInts.nil none,fun q hq=>hq.elim,Below.refl _ _⟩
  case round =>
   obtain ⟨j,a1,c1,S1,hj,rfl,rfl,hoi,hsb,hbw⟩:=hrel
   obtain ⟨nl,hnl⟩ : ∃ nl,nl=(oddJ f O j).length:=⟨_,rfl⟩
   have hnl5:nl <= 512:=by rw [hnl];have:=oddJ_len f O j;omega
   rw [<-hnl] at hoi ⊢
   have HNL:=hd hnl
   have HOI:=hd hoi
   have HSB:=hd hsb
   have H2R:Hid (Since w2 wr):=hd (H23.out.trans (hbw.mono H23.out.size))
   have HRR:Hid (Since wr wr):=hd (Below.refl _ _)
   have H3R:Hid (Since w3 wr):=hd hbw
   have HW:Hid (Below w.heap.size w wr):=hd (HW3.out.trans (hbw.mono HW3.out.size))
   have BP:=hd (BP3.out.later hbw)
   clear hnl hoi hsb hbw
   obtain ⟨lBP,cBP,fBP⟩:=BP.out
   by_cases hlt:j < nb
   ·go_upto_region 8 with (fail)
    have nB7BP:wr.heap.size ≠ w2.heap.size:=fun e=>by have:=lBP;omega
    have nBPB7:w2.heap.size ≠ wr.heap.size:=fun e=>nB7BP e.symm
    have BP_:Box (wr.alloc (.cells #[.int .i64 j] 3)) (w2.heap.size) #[.pointer (some ⟨bn,0,none⟩)]:=by simpa using (BP.out.alloc _)
    have B7_:Box (wr.alloc (.cells #[.int .i64 j] 3)) (wr.heap.size) #[.int .i64 j]:=by simpa using (Box.new wr #[.int .i64 j] 3)
    have H2R_:=(H2R.out.alloc (.cells #[.int .i64 j] 3))
    have HRR_:=(HRR.out.alloc (.cells #[.int .i64 j] 3))
    have H3R_:=(H3R.out.alloc (.cells #[.int .i64 j] 3))
    have HW_:Below w.heap.size w (wr.alloc (.cells #[.int .i64 j] 3)):=(HW.out.alloc (by first | exact Nat.le_refl _ | exact HW.out.size | (simp only [World.size_alloc,World.size_setCell];have:=HW.out.size;omega)) _)
    clear lBP cBP fBP
    clear BP H2R HRR H3R HW
    generalize (wr.alloc (.cells #[.int .i64 j] 3))=w5 at *
    have BP:=hd BP_
    clear BP_
    have B7:=hd B7_
    clear B7_
    have H2R:=hd H2R_
    clear H2R_
    have HRR:=hd HRR_
    clear HRR_
    have H3R:=hd H3R_
    clear H3R_
    have HW:=hd HW_
    clear HW_
    obtain ⟨lBP,cBP,fBP⟩:=BP.out
    obtain ⟨lB7,cB7,fB7⟩:=B7.out
    obtain ⟨hpc,hpi⟩:=HPX.out j hlt
    obtain ⟨ra,rc,hre⟩:=hpi.form
    rw [hre] at hpc hpi
    obtain ⟨lp,hlp⟩ : ∃ lp,lp=(natI (predN f f.blocks.length 0 j)).length:=⟨_,rfl⟩
    rw [<-hlp] at hpc hpi
    have HLP:=hd hlp
    have HPC:=hd hpc
    have HPI:=hd hpi
    clear hpc hpi hre hlp
    refine wp_region_grow 18 (fun kz=>match kz with | 17=>.const (.bool ((natI (predN f f.blocks.length 0 j)).any fun x=>oddQ f O j x.toNat)) | _=>.plain) (by kernel_rfl) (by kernel_rfl) ?_ (fun ν => ?_)
    ·(intro k;(try dsimp only);split <;> first | exact True.intro | (intro u w1 w2 hu hb;exact hu.below hb))
    simp only [List.take_succ_cons,List.take_zero,List.drop_succ_cons,List.drop_zero]
    iterate 17 (refine Grow.val (v := ?_) rfl rfl (fun wg hbg hdg => ?_) ?_;rotate_left;(focus ((obtain ⟨lg0,cg0,fg0⟩:=BP.out.later hbg);(obtain ⟨lg1,cg1,fg1⟩:=B7.out.later hbg);(have hW2:=H2R.out.trans (hbg.mono H2R.out.size);obtain ⟨xl1,xc1,xf1⟩:=(HN.out.later hW2).n;obtain ⟨xl2,xc2,xf2⟩:=(HN.out.later hW2).s;obtain ⟨xl3,xc3,xf3⟩:=(HN.out.later hW2).t;obtain ⟨xl4,xc4,xf4⟩:=(HN.out.later hW2).g;have xpk:=(hW2.cell (p:=⟨pb,po+j,none⟩) hpbl).trans HPC.out;rw [<-HNB.out] at xc3 xc4);clear hbg hdg;first | (go_simp;done) | (go_simp;with_reducible rfl)));simp only [Act.put,List.setIfInBounds_toArray,List.set_cons_zero,List.set_cons_succ])
    refine Grow.call (f := ?_) (args := ?_) rfl (fun wg => ?_) (fun wg hbg hdg => ?_) ?_
    rotate_left 2
    focus (first | (go_simp;done) | (go_simp;refine And.intro ?_ ?_ <;> with_reducible rfl) | (go_simp;with_reducible rfl))
    focus (have hW2:=H2R.out.trans (hbg.mono H2R.out.size);exact (contFunI oddEnters (fun x=>oddQ f O j x.toNat) (by have h9:=HPI.out.below hW2;rw [HLP.out] at h9 ⊢;exact h9) (fun W x hx hW=>by have hW4:=hW2.trans (hW.mono hW2.size);obtain ⟨p,hp,rfl⟩:=List.mem_map.1 (show x ∈ (predN f f.blocks.length 0 j).map (fun n:Nat=>(n:Int)) from hx);have hpn:p < f.blocks.length:=(by rw [predN_zero,List.mem_filter,List.mem_range] at hp;exact hp.1);exact oddFn (HN.out.later hW4) (HT.out.later hW4) HO.out HD.out HALL.out (by rw [<-HNB.out];exact hn2) (by rw [<-HNB.out];exact hlt) hpn (BP.out.later (hbg.trans (hW.mono hbg.size))) (B7.out.later (hbg.trans (hW.mono hbg.size))))).mono (fun e w2 ⟨he,hw⟩=>⟨_,he,rfl,hw⟩))
    simp only [Act.put,Known.val,List.setIfInBounds_toArray,List.set_cons_zero,List.set_cons_succ]
    intro wg hb hf hap
    clear hap
    clear lBP cBP fBP lB7 cB7 fB7
    replace BP:=hd (BP.out.later hb)
    replace B7:=hd (B7.out.later hb)
    replace H2R:=hd (H2R.out.later hb)
    replace HRR:=hd (HRR.out.later hb)
    replace H3R:=hd (H3R.out.later hb)
    replace HW:=hd (HW.out.trans (hb.mono HW.out.size))
    clear hb
    obtain ⟨lBP,cBP,fBP⟩:=BP.out
    obtain ⟨lB7,cB7,fB7⟩:=B7.out
    rw [oddB_any]
    clear hf
    obtain ⟨ob,hob⟩ : ∃ ob,ob=oddB f O j:=⟨_,rfl⟩
    rw [<-hob]
    have HOB:=hd hob
    clear hob
    cases ob
    ·have HNX:=hd (oddJ_no HOB.out.symm)
     go_wp2
     clear lBP cBP fBP lB7 cB7 fB7
     go_roundw
     case rel=>exact ⟨j+1,a1,c1,S1,hlt,by rw [HNX.out, <-HNL.out],by go_num,by rw [HNX.out, <-HNL.out];exact HOI.out.off (Off.of_below HRR.out Foot.none) (fun _ _ h=>h),HSB.out,H3R.out⟩
     case measure=>simp [intOf];omega
    ·have HNX:=hd (oddJ_yes HOB.out.symm)
     have HLL:Hid ((natI (oddJ f O j)).length=nl):=hd (by rw [natI_len, <-HNL.out])
     have HOG:=hd (HOI.out.off (Off.of_below HRR.out Foot.none) (fun _ _ h=>h))
     clear lBP cBP fBP lB7 cB7 fB7
     obtain ⟨l7,c7,f7⟩:=B7.out
     go_wp2_with (at_builtin;go_loud (refine wpList_iapps (ys:=[(j:Int)]) (m:=1) rfl _ _ rfl HLL.out rfl rfl rfl (HOG.out.off (Off.alloc Foot.none _ _) (fun _ _ h=>h)) (ints_of_box (Box.new _ _ _) ⟨by omega,by omega⟩) (by omega) ?_);intro a3 c3 w8 G2 hO hG hof)
     clear l7 c7 f7
     have hnat:natI (oddJ f O j) ++ [(j:Int)]=natI (oddJ f O (j+1)):=by rw [HNX.out];unfold natI;rw [List.map_append];rfl
     rw [hnat] at hO
     have HOO:=hd hO
     have HL2:Hid ((oddJ f O (j+1)).length=nl+1):=hd (by rw [HNX.out,List.length_append, <-HNL.out];rfl)
     have HGB:Hid (∀ q,G2 q -> w3.heap.size <= q):=hd (fun q hq=>by
      rcases hG q hq with h | h
      ·exact HSB.out q h
      ·have:=H3R.out.size;simp at h;omega)
     have HB4:Hid (Below w3.heap.size w3 w8):=hd (H3R.out.trans ((((Below.refl w3.heap.size wg).alloc H3R.out.size _)).trans (hof.below (by have:=H3R.out.size;simp;omega) (fun q _ hq=>HSB.out q hq))))
     clear hO hG hof hnat
     go_roundw
     case rel=>exact ⟨j+1,a3,c3,G2,hlt,by rw [HL2.out],by go_num,by rw [HL2.out];exact HOO.out,HGB.out,HB4.out⟩
     case measure=>simp [intOf];omega
   ·obtain rfl:nb=j:=by omega
    have HE:Hid (oddF f O=oddJ f O nb):=hd (by unfold oddF;rw [<-HNB.out])
    go_wp2
    go_ret2
    refine ⟨HW.out,.inr ⟨HC.out.1,HC.out.2,O,a1,c1,HO.out, ?_, ?_⟩⟩
    ·rw [HE.out, <-HNL.out];rfl
    ·rw [HE.out, <-HNL.out];exact HOI.out.ints
end Go.Proofs.YtgmhnepmkaonaaaGreat
