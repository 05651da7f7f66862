/- Part 41. -/
import Derived.Test.YtgmhnepmkaonaaaGreatPD25
namespace Go.Proofs.YtgmhnepmkaonaaaGreat
set_option maxHeartbeats 12800000
set_option linter.unusedSimpArgs false
set_option linter.unusedVariables false
section
open Go.RowKit
def predX (f:FuncD) (t b:Nat):List (List Int):=(List.range f.blocks.length).map fun u=>natI (if u < t then predN f f.blocks.length 0 u else if u=t then predN f b 0 u else [])
theorem predX_len (f:FuncD) (t b:Nat):(predX f t b).length=f.blocks.length:=by simp [predX]
theorem predX_at {f:FuncD} {t b:Nat} (h:t < f.blocks.length):(predX f t b)[t]? = some (natI (predN f b 0 t)):=by simp [predX,h]
theorem predX_start (f:FuncD):predX f 0 0=List.replicate f.blocks.length []:=by
 apply List.ext_getElem?
 intro t
 by_cases h:t < f.blocks.length
 ·simp only [predX,List.getElem?_map,List.getElem?_range h,Option.map_some]
  rw [List.getElem?_replicate,if_pos h]
  by_cases e:t=0 <;> simp [e,natI,predN_zero]
 ·rw [List.getElem?_eq_none (by rw [predX_len];omega),List.getElem?_eq_none (by simp;omega)]
theorem predN_succ (f:FuncD) (b t:Nat):predN f (b+1) 0 t=predN f b 0 t ++ (if (toB f b).contains t then [b] else []):=by
 rw [predN_zero,predN_zero,List.range_succ,List.filter_append]
 simp only [List.filter_cons,List.filter_nil]
theorem predX_old {f:FuncD} {t b:Nat} (h:(toB f b).contains t=false):predX f t (b+1)=predX f t b:=by
 unfold predX
 refine List.map_congr_left fun u _ => ?_
 by_cases e:u=t
 ·subst e;rw [predN_succ,h];simp
 ·simp [e]
theorem predX_new {f:FuncD} {t b:Nat} (h:(toB f b).contains t=true) (ht:t < f.blocks.length):(predX f t b).set t (natI (predN f b 0 t ++ [b]))=predX f t (b+1):=by
 apply List.ext_getElem?
 intro u
 rw [List.getElem?_set,predX_len]
 by_cases hu:u < f.blocks.length
 ·have e0:∀ b,(predX f t b)[u]? = some (natI (if u < t then predN f f.blocks.length 0 u else if u=t then predN f b 0 u else [])):=fun b=>by simp [predX,hu]
  rw [e0,e0]
  by_cases e:t=u
  ·subst e
   rw [if_pos rfl,if_pos hu,if_neg (Nat.lt_irrefl _),if_pos rfl,predN_succ,h]
   simp
  ·rw [if_neg e,if_neg (Ne.symm e),if_neg (Ne.symm e)]
 ·rw [List.getElem?_eq_none (by rw [predX_len];omega),List.getElem?_eq_none (by rw [predX_len];omega)]
  split <;> simp_all
theorem predX_next (f:FuncD) (t:Nat):predX f t f.blocks.length=predX f (t+1) 0:=by
 unfold predX
 refine List.map_congr_left fun u _ => ?_
 by_cases h1:u < t
 ·rw [if_pos h1,if_pos (by omega)]
 ·rw [if_neg h1]
  by_cases h2:u=t
  ·subst h2;rw [if_pos rfl,if_pos (by omega)]
  ·rw [if_neg h2,if_neg (by omega)]
   split
   ·simp [predN_zero]
   ·rfl
theorem predX_done (f:FuncD):predX f f.blocks.length 0=predsF f:=by
 unfold predX predsF predI
 refine List.map_congr_left fun u hu => ?_
 rw [if_pos (List.mem_range.1 hu)]
set_option maxRecDepth 100000 in
theorem refPreds {w:World} {v:Value} {f:FuncD} (hv:FuncV w v f) (hf:formB f=true):Calls Tryz.prog 68 #[v] w fun e w' => ∃ pv,e = .returned pv/\Lists w' pv (predsF f)/\Below w.heap.size w w':=by
 have HTO:=hd (fun (b:Nat) (x:BlockD) (h:f.blocks[b]? = some x)=>formB_to hf h)
 obtain ⟨hn1,hn2⟩:=formB_nb hf
 obtain ⟨ap,cp,ab,cb,rfl,hp,ha,hc,hB⟩:=hv.form
 obtain ⟨a2,c2,bb,bo,hbe,hbc,hbm,hbl,hba,hbx⟩:=blocks_parts hB
 cases hbe
 obtain ⟨np,hnp⟩ : ∃ np,np=f.params.length:=⟨_,rfl⟩
 obtain ⟨nb,hnb⟩ : ∃ nb,nb=f.blocks.length:=⟨_,rfl⟩
 rw [<-hnp]
 rw [<-hnb] at hbc hba hbl hn1 hn2 ⊢
 obtain ⟨rfl,hbw⟩:=hba hn1
 have HNB:=hd hnb
 have HBX:=hd hbx
 have hn0:(0:Int) <= (nb:Int):=by omega
 clear hp ha hc hB hv hbx hnp hnb hba hf
 generalize f.arrays=ar at *
 generalize f.cells=ce at *
 have hmk:=run_make_row' (P:=Tryz.prog) 42 22 (.slice none 0 0) 24 Tryz.underlying42 infoInts rfl .i64 .i64 nb (by omega) (by omega)
 go_enter Tryz.func68,Tryz.ntmps68
 go_upto_region 1 with (fail)
 have B1:Hid (Box (w.alloc (.cells #[.slice ap np cp,.int .i64 ar,.int .i64 ce,.slice (some ⟨bb,bo,none⟩) nb cb] 25)) (w.heap.size) #[.slice ap np cp,.int .i64 ar,.int .i64 ce,.slice (some ⟨bb,bo,none⟩) nb cb]):=hd (by simpa using (Box.new w #[.slice ap np cp,.int .i64 ar,.int .i64 ce,.slice (some ⟨bb,bo,none⟩) nb cb] 25))
 have HW:Hid (Below w.heap.size w (w.alloc (.cells #[.slice ap np cp,.int .i64 ar,.int .i64 ce,.slice (some ⟨bb,bo,none⟩) nb cb] 25))):=hd ((Below.refl _ _).alloc (Nat.le_refl _) _)
 generalize (w.alloc (.cells #[.slice ap np cp,.int .i64 ar,.int .i64 ce,.slice (some ⟨bb,bo,none⟩) nb cb] 25))=wv at *
 obtain ⟨lB1,cB1,fB1⟩:=B1.out
 go_upto_region 2 with (fail)
 have HRW:Hid (Bag (wv.alloc (.cells (madeCells #[.slice none 0 0] nb) 22)) w.heap.size [w.heap.size] wv.heap.size 3 _ (predX f 0 0)):=hd (by
  rw [predX_start, <-HNB.out]
  exact Bag.empty (Box.new _ _ _))
 have hbA:=(Below.refl wv.heap.size wv).alloc (Nat.le_refl _) (.cells (madeCells #[.slice none 0 0] nb) 22)
 have HG0:Hid (w.heap.size < wv.heap.size):=hd lB1
 clear lB1 cB1 fB1
 replace B1:=hd (B1.out.later hbA)
 replace HW:=hd (HW.out.trans (hbA.mono HW.out.size))
 clear hbA
 obtain ⟨lB1,cB1,fB1⟩:=B1.out
 obtain ⟨bp,hbp⟩ : ∃ bp,bp=wv.heap.size:=⟨_,rfl⟩
 rw [<-hbp] at HRW HG0
 generalize wv.alloc _=wa at *
 simp only [<-hbp]
 clear hbp hmk
 go_wp2_with fail
 go_loopw [4] (fun i wr => ∃ (t:Nat) (vs:List Value),t <= nb/\i = .int .i64 t/\Bag wr w.heap.size [w.heap.size] bp 3 vs (predX f t 0)/\Below w.heap.size w wr/\Box wr w.heap.size #[.slice ap np cp,.int .i64 ar,.int .i64 ce,.slice (some ⟨bb,bo,none⟩) nb cb]) (fun i _=>nb - (intOf i).toNat)
 case atStart=>exact ⟨0,_,Nat.zero_le _,rfl,HRW.out,HW.out,B1.out⟩
 case round =>
  obtain ⟨t,vs,ht,rfl,hR,hW,h1⟩:=hrel
  clear lB1 cB1 fB1
  replace HRW:=hd hR
  replace HW:=hd hW
  replace B1:=hd h1
  clear hR hW h1
  generalize wr=w3 at *
  obtain ⟨lB1,cB1,fB1⟩:=B1.out
  by_cases hlt:t < nb
  ·go_wp2_with fail
   go_loopw [5] (fun i wr => ∃ (b:Nat) (vs:List Value),b <= nb/\i = .int .i64 b/\Bag wr w.heap.size [w.heap.size] bp 3 vs (predX f t b)/\Below w.heap.size w wr/\Box wr w.heap.size #[.slice ap np cp,.int .i64 ar,.int .i64 ce,.slice (some ⟨bb,bo,none⟩) nb cb]) (fun i _=>nb - (intOf i).toNat)
   case atStart=>exact ⟨0,_,Nat.zero_le _,rfl,HRW.out,HW.out,B1.out⟩
   case round =>
    obtain ⟨b,vs,hb,rfl,hR,hW,h1⟩:=hrel
    clear lB1 cB1 fB1
    replace HRW:=hd hR
    replace HW:=hd hW
    replace B1:=hd h1
    clear hR hW h1
    generalize wr=w5 at *
    obtain ⟨lB1,cB1,fB1⟩:=B1.out
    by_cases hltb:b < nb
    ·obtain ⟨x,hjx⟩ : ∃ x,f.blocks[b]? = some x:=⟨_,List.getElem?_eq_getElem (by have:=HNB.out;omega)⟩
     obtain ⟨api,aii,ati,cpi,cii,cti,hC⟩:=HBX.out b x hjx
     have HIT:=hd (hC.to.below HW.out)
     obtain ⟨k0,k1,k2,k3,k4,k5,q1,q2,q3,q4,q5,q6⟩:=hC.below HW.out hbw
     obtain ⟨cc,hcc⟩ : ∃ cc,cc=x.term.to.contains (t:Int):=⟨_,rfl⟩
     have HCC:Hid ((toB f b).contains t=cc):=hd (by
      rw [hcc,natI_contains (fun y hy=>by have:=HTO.out b x hjx y hy;omega),toB_at hjx])
     have HCT:=hd (refHas (x:=(t:Int)) HIT.out)
     rw [<-hcc] at HCT
     clear q1 q2 q3 q4 q5 q6 hC hjx k0 k1 k2 k3 k5 hcc
     go_wp2_with fail
     refine HCT.out.mono ?_
     rintro e w6 ⟨rfl,rfl⟩
     clear k4
     cases cc
     ·go_wp2
      go_roundw
      case rel=>exact ⟨b+1,vs,hltb,by go_num,by rw [predX_old HCC.out];exact HRW.out,HW.out,B1.out⟩
      case measure=>simp [intOf];omega
     ·obtain ⟨v,hvt,hcv,hOv⟩:=HRW.out.at (predX_at (f:=f) (t:=t) (b:=b) (by have:=HNB.out;omega))
      obtain ⟨n,hn⟩ : ∃ n,n=(natI (predN f b 0 t)).length:=⟨_,rfl⟩
      have hnle:n <= b+1:=by rw [hn,natI_len];exact predN_le f b 0 t
      rw [<-hn] at hOv
      have HN:=hd hn
      have HO:=hd hOv
      have HVT:=hd hvt
      obtain ⟨va,vc,rfl⟩:=hOv.form
      have hbpl:=HRW.out.box.lt
      have hbpf:=HRW.out.box.free t
      clear hn hOv hvt
      have HAP:=hd (HO.out.alloc (.cells #[.int .i64 b] 3))
      have HBX1:=hd (Box.new w5 #[.int .i64 b] 3)
      have HBR:=hd (HRW.out.alloc (.cells #[.int .i64 b] 3))
      have HB1:=hd (B1.out.alloc (.cells #[.int .i64 b] 3))
      have HWA:=hd (HW.out.alloc HW.out.size (.cells #[.int .i64 b] 3))
      go_wp2_with (at_builtin;refine wpList_kept rfl _ _ 22 3 rfl elInt rfl rfl HAP.out (Row.of_box (n:=1) (size:=1) HBX1.out rfl (by omega)) (by simp [Value.oneCell']) (by unfold maxLen;omega) (by omega) HWA.out.size (by intro y hy;simp at hy ⊢;omega) ?_;intro v7 w7 hO7 hK7;obtain ⟨oa7,oc7,rfl⟩:=hO7.form;have HO7:=hd hO7;have HK7:=hd hK7;have hc7:w7.cell? ⟨bp,t,none⟩=some (.slice va n vc):=(HBR.out.box.kept hK7 (by simp) (fun e=>HO.out.free _ e (by simp))).at t (by simpa using HVT.out);have hf7:w7.frozen? ⟨bp,t,none⟩=false:=(HBR.out.box.kept hK7 (by simp) (fun e=>HO.out.free _ e (by simp))).free t;clear hO7 hK7)
      have HR7:Hid (Bag (w7.setCell ⟨bp,t,none⟩ (.slice oa7 (n+1) oc7)) w.heap.size [w.heap.size] bp 3 (vs.set t (.slice oa7 (n+1) oc7)) (predX f t (b+1))):=hd (by
       rw [<-predX_new HCC.out (by have:=HNB.out;omega)]
       refine HBR.out.put HVT.out (predX_at (by have:=HNB.out;omega)) ?_ HK7.out
       have e9:natI (predN f b 0 t ++ [b])=natI (predN f b 0 t) ++ [(b:Int)]:=by simp [natI]
       rw [e9,List.length_append,List.map_append, <-HN.out]
       exact HO7.out)
      have HW7:=hd ((HK7.out.below HWA.out (by simp) (fun k hk=>(HAP.out.lt hk).2)).setCell (p:=⟨bp,t,none⟩) (by have:=HG0.out;simp only;omega) (.slice oa7 (n+1) oc7))
      have H17:=hd ((HB1.out.kept HK7.out (by simp) (fun e=>HO.out.free _ e (by simp))).other (p:=⟨bp,t,none⟩) (.slice oa7 (n+1) oc7) (by have:=HG0.out;simp only;omega))
      go_roundw
      case rel=>exact ⟨b+1,_,hltb,by go_num,HR7.out,HW7.out,H17.out⟩
      case measure=>simp [intOf];omega
    ·have hbn:b=nb:=by omega
     have HNX:Hid (predX f t b=predX f (t+1) 0):=hd (by rw [hbn,HNB.out,predX_next])
     go_wp2
     go_roundw
     case rel=>exact ⟨t+1,vs,hlt,by go_num,by rw [<-HNX.out];exact HRW.out,HW.out,B1.out⟩
     case measure=>simp [intOf];omega
  ·have htn:t=nb:=by omega
   have HLS:Hid (Lists w3 (.slice (some ⟨bp,0,none⟩) nb nb) (predsF f)):=hd (by
    have h1:=HRW.out
    rw [htn,HNB.out,predX_done] at h1
    have h2:=h1.lists (by unfold predsF;rw [predI_len];have:=HNB.out;omega) (predI_ok (by have:=HNB.out;omega))
    have h3:(predsF f).length=nb:=by unfold predsF;rw [predI_len,HNB.out]
    rw [h3] at h2;exact h2)
   go_wp2
   go_ret
   exact ⟨_,rfl,HLS.out,HW.out⟩
end
section
open Go.RowKit
end
section
open Go.RowKit
theorem sameLists {w:World} {u v:Value} {xs ys:List (List Int)} (hu:Lists w u xs) (hv:Lists w v ys):Calls Tryz.prog 85 #[u,v] w fun e w'=>e = .returned (.bool (decide (xs=ys)))/\Below w.heap.size w w':=by
 obtain ⟨us,a1,c1,b1,o1,rfl,p1,p2,p3,p4,p5,p6⟩:=hu.parts
 obtain ⟨vs,a2,c2,b2,o2,rfl,q1,q2,q3,q4,q5,q6⟩:=hv.parts
 obtain ⟨n1,hn1⟩ : ∃ n,n=xs.length:=⟨_,rfl⟩
 obtain ⟨n2,hn2⟩ : ∃ n,n=ys.length:=⟨_,rfl⟩
 rw [<-hn1] at p1 p3 p4 ⊢
 rw [<-hn2] at q1 q3 q4 ⊢
 have HN1:=hd hn1
 have HN2:=hd hn2
 have P4:=hd p4
 have P5:=hd p5
 have P6:=hd p6
 have Q4:=hd q4
 have Q5:=hd q5
 have Q6:=hd q6
 clear hu hv hn1 hn2 p4 p5 p6 q4 q5 q6
 have HW:=hd (Below.refl w.heap.size w)
 by_cases hne:n1=n2
 ·subst hne
  go_enter Tryz.func85,Tryz.ntmps85
  go_wp2_with fail
  go_loopw [5] (fun i wr => ∃ k:Nat,k <= n1/\i = .int .i64 k/\(∀ j,j < k -> xs.getD j []=ys.getD j [])/\Below w.heap.size w wr) (fun i _=>n1 - (intOf i).toNat)
  case atStart=>exact ⟨0,Nat.zero_le _,rfl,fun j h=>absurd h (Nat.not_lt_zero _),HW.out⟩
  case round =>
   obtain ⟨k,hk,rfl,hs,hW⟩:=hrel
   have HS:=hd hs
   replace HW:=hd hW
   clear hs hW
   by_cases hlt:k < n1
   ·obtain ⟨rfl,hb1⟩:=P4.out (by omega)
    obtain ⟨rfl,hb2⟩:=Q4.out (by omega)
    have HX:=hd (P6.out k (by have:=HN1.out;omega))
    have HY:=hd (Q6.out k (by have:=HN2.out;omega))
    have C1:=hd ((HW.out.cell (p:=⟨b1,o1+k,none⟩) hb1).trans (P5.out k (by have:=HN1.out;omega)))
    have C2:=hd ((HW.out.cell (p:=⟨b2,o2+k,none⟩) hb2).trans (Q5.out k (by have:=HN2.out;omega)))
    have C1l:=World.block_lt_of_cell? wr _ C1.out
    have C2l:=World.block_lt_of_cell? wr _ C2.out
    obtain ⟨c,hc⟩ : ∃ c,c=decide (xs.getD k []=ys.getD k []):=⟨_,rfl⟩
    have HCC:=hd hc
    have HCT:Hid (∀ w4,Below wr.heap.size wr w4 -> Calls Tryz.prog 37 #[us.getD k undef,vs.getD k undef] w4 fun e w'=>e = .returned (.bool c)/\Below w4.heap.size w4 w'):=hd (fun w4 hb=>by
     rw [hc]
     exact sameB ((HX.out.below HW.out).below hb) ((HY.out.below HW.out).below hb))
    clear hc
    have hfx:=(HX.out).form
    have hfy:=(HY.out).form
    generalize us.getD k undef=uk at *
    generalize vs.getD k undef=vk at *
    obtain ⟨xa,xc,rfl⟩:=hfx
    obtain ⟨ya,yc,rfl⟩:=hfy
    go_upto_region 6 with (fail)
    refine wp_region_grow 10 (fun kz=>match kz with | 8=>.const (.bool c) | _=>.plain) (by kernel_rfl) (by kernel_rfl) ?_ (fun ν => ?_)
    ·(intro k;(try dsimp only);split <;> first | exact True.intro | (intro u w1 w2 hu hb;exact hu.below hb))
    simp only [List.take_succ_cons,List.take_zero,List.drop_succ_cons,List.drop_zero]
    iterate 8 (refine Grow.val (v := ?_) rfl rfl (fun wg hbg hdg => ?_) ?_;rotate_left;(focus ((have hc19:=(hbg.cell (p:=⟨b1,o1+k,none⟩) C1l).trans C1.out;have hc29:=(hbg.cell (p:=⟨b2,o2+k,none⟩) C2l).trans C2.out);clear hbg hdg;first | (go_simp;done) | (go_simp;with_reducible rfl)));simp only [Act.put,List.setIfInBounds_toArray,List.set_cons_zero,List.set_cons_succ])
    refine Grow.call (f := ?_) (args := ?_) rfl (fun wg => ?_) (fun wg hbg hdg => ?_) ?_
    rotate_left 2
    focus (first | (go_simp;done) | (go_simp;refine And.intro ?_ ?_ <;> with_reducible rfl) | (go_simp;with_reducible rfl))
    focus exact Calls.mono (HCT.out wg hbg) (fun e w2 ⟨he,hb2⟩=>⟨_,he,rfl,hb2⟩)
    simp only [Act.put,Known.val,List.setIfInBounds_toArray,List.set_cons_zero,List.set_cons_succ]
    refine Grow.val (v := ?_) rfl rfl (fun wg hbg hdg => ?_) ?_
    rotate_left
    focus ((have hc19:=(hbg.cell (p:=⟨b1,o1+k,none⟩) C1l).trans C1.out;have hc29:=(hbg.cell (p:=⟨b2,o2+k,none⟩) C2l).trans C2.out);clear hbg hdg;first | (go_simp;done) | (go_simp;with_reducible rfl))
    simp only [Act.put,List.setIfInBounds_toArray,List.set_cons_zero,List.set_cons_succ]
    intro wg hb hf hap
    clear hap
    replace HW:=hd (HW.out.trans (hb.mono HW.out.size))
    clear hb
    clear hf
    cases c
    ·have hno:xs.getD k [] ≠ ys.getD k []:=by have:=HCC.out;simpa using this
     have HNO:=hd hno
     clear hno
     go_wp2
     go_ret
     exact ⟨ret_bool (decide_eq_false (fun e=>HNO.out (by rw [e]))).symm,HW.out⟩
    ·have HYS:Hid (xs.getD k []=ys.getD k []):=hd (by have:=HCC.out;simpa using this)
     go_wp2
     go_roundw
     case rel=>exact ⟨k+1,hlt,by go_num,fun j hj=>by
       by_cases e:j=k
       ·subst e;exact HYS.out
       ·exact HS.out j (by omega),HW.out⟩
     case measure=>simp [intOf];omega
   ·have hkn:k=n1:=by omega
    have HEQ:Hid (xs=ys):=hd (by
     apply List.ext_getElem?
     intro j
     have h1:=HN1.out
     have h2:=HN2.out
     by_cases hj:j < n1
     ·have h3:=HS.out j (by omega)
      rw [List.getD_eq_getElem?_getD,List.getD_eq_getElem?_getD] at h3
      obtain ⟨x,hx⟩ : ∃ x,xs[j]? = some x:=⟨_,List.getElem?_eq_getElem (by omega)⟩
      obtain ⟨y,hy⟩ : ∃ y,ys[j]? = some y:=⟨_,List.getElem?_eq_getElem (by omega)⟩
      rw [hx,hy] at h3 ⊢
      simp at h3;rw [h3]
     ·rw [List.getElem?_eq_none (by omega),List.getElem?_eq_none (by omega)])
    go_wp2
    go_ret
    exact ⟨ret_bool (decide_eq_true HEQ.out).symm,HW.out⟩
 ·skip
  go_enter Tryz.func85,Tryz.ntmps85
  go_wp2
  go_ret
  exact ⟨ret_bool (decide_eq_false (fun e=>hne (by rw [HN1.out,HN2.out,e]))).symm,HW.out⟩
end
end Go.Proofs.YtgmhnepmkaonaaaGreat
