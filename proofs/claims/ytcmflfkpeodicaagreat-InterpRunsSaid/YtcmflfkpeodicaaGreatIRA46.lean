/- Part 46. -/
import Derived.Test.YtcmflfkpeodicaaGreatIRA23
namespace Go.Proofs.YtcmflfkpeodicaaGreat
set_option maxHeartbeats 12800000
set_option linter.all false
section
open Go.RowKit
def jN (f:FuncD) (t b:Nat):List (List Int):=(List.range f.blocks.length).map fun u=>natI (if u < t then fO f f.blocks.length 0 u else if u=t then fO f b 0 u else [])
theorem nG (f:FuncD) (t b:Nat):(jN f t b).length=f.blocks.length:=by simp [jN]
theorem vS {f:FuncD} {t b:Nat} (h:t < f.blocks.length):(jN f t b)[t]? = some (natI (fO f b 0 t)):=by simp [jN,h]
theorem uH (f:FuncD):jN f 0 0=List.replicate f.blocks.length []:=by
 apply bN
 intro t
 by_cases h:t < f.blocks.length
 ·simp only [jN,aU,List.getElem?_range h,cS]
  rw [List.getElem?_replicate,if_pos h]
  by_cases e:t=0 <;> simp [e,natI,gJ]
 rw [aW (by rw [nG];omega),aW (by simp;omega)]
theorem qJ (f:FuncD) (b t:Nat):fO f (b+1) 0 t=fO f b 0 t ++ (if (toB f b).contains t then [b] else []):=by
 rw [gJ,gJ,List.range_succ,List.filter_append]
 simp only [List.filter_cons,List.filter_nil]
theorem aBI {f:FuncD} {t b:Nat} (h:(toB f b).contains t=false):jN f t (b+1)=jN f t b:=by
 unfold jN
 refine dR fun u _ => ?_
 by_cases e:u=t
 ·subst e;rw [qJ,h];simp
 simp [e]
theorem aBJ {f:FuncD} {t b:Nat} (h:(toB f b).contains t=true) (ht:t < f.blocks.length):(jN f t b).set t (natI (fO f b 0 t ++ [b]))=jN f t (b+1):=by
 apply bN
 intro u
 rw [cP,nG]
 by_cases hu:u < f.blocks.length
 ·have e0:∀ b,(jN f t b)[u]? = some (natI (if u < t then fO f f.blocks.length 0 u else if u=t then fO f b 0 u else [])):=fun b=>by simp [jN,hu]
  rw [e0,e0]
  by_cases e:t=u
  ·subst e
   rw [if_pos rfl,if_pos hu,if_neg (Nat.lt_irrefl _),if_pos rfl,qJ,h]
   simp
  rw [if_neg e,if_neg (Ne.symm e),if_neg (Ne.symm e)]
 rw [aW (by rw [nG];omega),aW (by rw [nG];omega)]
 split <;> simp_all
theorem yD (f:FuncD) (t:Nat):jN f t f.blocks.length=jN f (t+1) 0:=by
 unfold jN
 refine dR fun u _ => ?_
 by_cases h1:u < t
 ·rw [if_pos h1,if_pos (by omega)]
 rw [if_neg h1]
 by_cases h2:u=t
 ·subst h2;rw [if_pos rfl,if_pos (by omega)]
 rw [if_neg h2,if_neg (by omega)]
 split
 ·simp [gJ]
 rfl
theorem yE (f:FuncD):jN f f.blocks.length 0=gB f:=by
 unfold jN gB jV
 refine dR fun u hu => ?_
 rw [if_pos (cO.1 hu)]
set_option maxRecDepth 100000 in
theorem aC2 {w:World} {v:Value} {f:FuncD} (hv:gG w v f) (hf:gM f=true):Calls Tryz.prog 46 #[v] w fun e w' => ∃ pv,e = .returned pv/\kR w' pv (gB f)/\Below w.heap.size w w':=by
 have HTO:=h! (fun (b:Nat) (x:BlockD) (h:f.blocks[b]? = some x)=>mV hf h)
 obtain ⟨hn1,hn2⟩:=gV hf
 obtain ⟨ap,cp,ab,cb,rfl,hp,ha,hc,hB⟩:=hv.form
 obtain ⟨a2,c2,bb,bo,hbe,hbc,hbm,hbl,hba,hbx⟩:=eW hB
 cases hbe
 obtain ⟨np,hnp⟩ : ∃ np,np=f.params.length:=⟨_,rfl⟩
 obtain ⟨nb,hnb⟩ : ∃ nb,nb=f.blocks.length:=⟨_,rfl⟩
 rw [<-hnp]
 rw [<-hnb] at hbc hba hbl hn1 hn2 ⊢
 obtain ⟨rfl,hbw⟩:=hba hn1
 have HNB:=h! hnb
 have HBX:=h! hbx
 have hn0:(0:Int) <= (nb:Int):=by omega
 clear hp ha hc hB hv hbx hnp hnb hba hf
 generalize f.arrays=ar at *
 generalize f.cells=ce at *
 have hmk:=run_make_row' (P:=Tryz.prog) 26 22 (.slice none 0 0) 24 Tryz.underlying26 uV rfl .i64 .i64 nb (by omega) (by omega)
 go_enter Tryz.func46,Tryz.ntmps46
 go_upto_region 1 with (fail)
 have hA_:=(Below.refl w.heap.size w).alloc (aF _) (.cells #[.slice ap np cp,.int .i64 ar,.int .i64 ce,.slice (some ⟨bb,bo,none⟩) nb cb] 25)
 have HW:=h! hA_
 clear hA_
 have B1:=h! (Box.new w #[.slice ap np cp,.int .i64 ar,.int .i64 ce,.slice (some ⟨bb,bo,none⟩) nb cb] 25)
 generalize w.alloc (.cells #[.slice ap np cp,.int .i64 ar,.int .i64 ce,.slice (some ⟨bb,bo,none⟩) nb cb] 25)=wv at *
 obtain ⟨lB1,cB1,fB1⟩:=B1.out
 go_upto_region 2 with (fail)
 have HRW:Hid (Bag (wv.alloc (.cells (madeCells #[.slice none 0 0] nb) 22)) w.heap.size [w.heap.size] wv.heap.size 3 _ (jN f 0 0)):=h! (by
  rw [uH, <-HNB.out]
  exact Bag.empty (Box.new _ _ _))
 have hbA:=(Below.refl wv.heap.size wv).alloc (aF _) (.cells (madeCells #[.slice none 0 0] nb) 22)
 have HG0:Hid (w.heap.size < wv.heap.size):=h! lB1
 clear lB1 cB1 fB1
 replace B1:=h! (B1.out.later hbA)
 replace HW:=h! (HW.out.trans (hbA.mono HW.out.size))
 clear hbA
 obtain ⟨lB1,cB1,fB1⟩:=B1.out
 obtain ⟨bp,hbp⟩ : ∃ bp,bp=wv.heap.size:=⟨_,rfl⟩
 rw [<-hbp] at HRW HG0
 generalize wv.alloc _=wa at *
 simp only [<-hbp]
 clear hbp hmk
 go_wp2_with fail
 go_loopw [4] (fun i wr => ∃ (t:Nat) (vs:List Value),t <= nb/\i = .int .i64 t/\Bag wr w.heap.size [w.heap.size] bp 3 vs (jN f t 0)/\Below w.heap.size w wr/\Box wr w.heap.size #[.slice ap np cp,.int .i64 ar,.int .i64 ce,.slice (some ⟨bb,bo,none⟩) nb cb]) (fun i _=>nb - (intOf i).toNat)
 case atStart=>exact ⟨0,_,aP _,rfl,HRW.out,HW.out,B1.out⟩
 obtain ⟨t,vs,ht,rfl,hR,hW,h1⟩:=hrel
 clear lB1 cB1 fB1
 replace HRW:=h! hR
 replace HW:=h! hW
 replace B1:=h! h1
 clear hR hW h1
 generalize wr=w3 at *
 obtain ⟨lB1,cB1,fB1⟩:=B1.out
 by_cases hlt:t < nb
 ·go_wp2_with fail
  go_loopw [5] (fun i wr => ∃ (b:Nat) (vs:List Value),b <= nb/\i = .int .i64 b/\Bag wr w.heap.size [w.heap.size] bp 3 vs (jN f t b)/\Below w.heap.size w wr/\Box wr w.heap.size #[.slice ap np cp,.int .i64 ar,.int .i64 ce,.slice (some ⟨bb,bo,none⟩) nb cb]) (fun i _=>nb - (intOf i).toNat)
  case atStart=>exact ⟨0,_,aP _,rfl,HRW.out,HW.out,B1.out⟩
  obtain ⟨b,vs,hb,rfl,hR,hW,h1⟩:=hrel
  clear lB1 cB1 fB1
  replace HRW:=h! hR
  replace HW:=h! hW
  replace B1:=h! h1
  clear hR hW h1
  generalize wr=w5 at *
  obtain ⟨lB1,cB1,fB1⟩:=B1.out
  by_cases hltb:b < nb
  ·obtain ⟨x,hjx⟩ : ∃ x,f.blocks[b]? = some x:=⟨_,aB (by have:=HNB.out;omega)⟩
   obtain ⟨api,aii,ati,cpi,cii,cti,hC⟩:=HBX.out b x hjx
   have HIT:=h! (hC.to.below HW.out)
   obtain ⟨k0,k1,k2,k3,k4,k5,q1,q2,q3,q4,q5,q6⟩:=hC.below HW.out hbw
   obtain ⟨cc,hcc⟩ : ∃ cc,cc=x.term.to.contains (t:Int):=⟨_,rfl⟩
   have HCC:Hid ((toB f b).contains t=cc):=h! (by
    rw [hcc,mT (fun y hy=>by have:=HTO.out b x hjx y hy;omega),oN hjx])
   have HCT:=h! (aDA (x:=(t:Int)) HIT.out)
   rw [<-hcc] at HCT
   clear q1 q2 q3 q4 q5 q6 hC hjx k0 k1 k2 k3 k5 hcc
   go_wp2_with fail
   refine HCT.out.mono ?_
   rintro e w6 ⟨rfl,rfl⟩
   clear k4
   cases cc
   ·go_wp2
    go_roundw
    case rel=>exact ⟨b+1,vs,hltb,by go_num,by rw [aBI HCC.out];exact HRW.out,HW.out,B1.out⟩
    simp [intOf];omega
   obtain ⟨v,hvt,hcv,hOv⟩:=HRW.out.at (vS (f:=f) (t:=t) (b:=b) (by have:=HNB.out;omega))
   obtain ⟨n,hn⟩ : ∃ n,n=(natI (fO f b 0 t)).length:=⟨_,rfl⟩
   have hnle:n <= b+1:=by rw [hn,fW];exact nX f b 0 t
   rw [<-hn] at hOv
   have HN:=h! hn
   have HO:=h! hOv
   have HVT:=h! hvt
   obtain ⟨va,vc,rfl⟩:=hOv.form
   have hbpl:=HRW.out.box.lt
   have hbpf:=HRW.out.box.free t
   clear hn hOv hvt
   have HAP:=h! (HO.out.alloc (.cells #[.int .i64 b] 3))
   have HBX1:=h! (Box.new w5 #[.int .i64 b] 3)
   have HBR:=h! (HRW.out.alloc (.cells #[.int .i64 b] 3))
   have HB1:=h! (B1.out.alloc (.cells #[.int .i64 b] 3))
   have HWA:=h! (HW.out.alloc HW.out.size (.cells #[.int .i64 b] 3))
   go_wp2_with (at_builtin;refine tH rfl _ _ 22 3 rfl mA rfl rfl HAP.out (Row.of_box (n:=1) (size:=1) HBX1.out rfl (by omega)) (by simp [Value.oneCell']) (by unfold maxLen;omega) (by omega) HWA.out.size (by intro y hy;simp at hy ⊢;omega) ?_;intro v7 w7 hO7 hK7;obtain ⟨oa7,oc7,rfl⟩:=hO7.form;have HO7:=h! hO7;have HK7:=h! hK7;have hc7:w7.cell? ⟨bp,t,none⟩=some (.slice va n vc):=(HBR.out.box.kept hK7 (by simp) (fun e=>HO.out.free _ e (by simp))).at t (by simpa using HVT.out);have hf7:w7.frozen? ⟨bp,t,none⟩=false:=(HBR.out.box.kept hK7 (by simp) (fun e=>HO.out.free _ e (by simp))).free t;clear hO7 hK7)
   have HR7:Hid (Bag (w7.setCell ⟨bp,t,none⟩ (.slice oa7 (n+1) oc7)) w.heap.size [w.heap.size] bp 3 (vs.set t (.slice oa7 (n+1) oc7)) (jN f t (b+1))):=h! (by
    rw [<-aBJ HCC.out (by have:=HNB.out;omega)]
    refine HBR.out.put HVT.out (vS (by have:=HNB.out;omega)) ?_ HK7.out
    have e9:natI (fO f b 0 t ++ [b])=natI (fO f b 0 t) ++ [(b:Int)]:=by simp [natI]
    rw [e9,aQ,bF, <-HN.out]
    exact HO7.out)
   have HW7:=h! ((HK7.out.below HWA.out (by simp) (fun k hk=>(HAP.out.lt hk).2)).setCell (p:=⟨bp,t,none⟩) (by have:=HG0.out;simp only;omega) (.slice oa7 (n+1) oc7))
   have H17:=h! ((HB1.out.kept HK7.out (by simp) (fun e=>HO.out.free _ e (by simp))).other (p:=⟨bp,t,none⟩) (.slice oa7 (n+1) oc7) (by have:=HG0.out;simp only;omega))
   go_roundw
   case rel=>exact ⟨b+1,_,hltb,by go_num,HR7.out,HW7.out,H17.out⟩
   simp [intOf];omega
  have hbn:b=nb:=by omega
  have HNX:Hid (jN f t b=jN f (t+1) 0):=h! (by rw [hbn,HNB.out,yD])
  go_wp2
  go_roundw
  case rel=>exact ⟨t+1,vs,hlt,by go_num,by rw [<-HNX.out];exact HRW.out,HW.out,B1.out⟩
  simp [intOf];omega
 have htn:t=nb:=by omega
 have HLS:Hid (kR w3 (.slice (some ⟨bp,0,none⟩) nb nb) (gB f)):=h! (by
  have h1:=HRW.out
  rw [htn,HNB.out,yE] at h1
  have h2:=h1.lists (by unfold gB;rw [gR];have:=HNB.out;omega) (uU (by have:=HNB.out;omega))
  have h3:(gB f).length=nb:=by unfold gB;rw [gR,HNB.out]
  rw [h3] at h2;exact h2)
 go_wp2
 go_ret
 exact ⟨_,rfl,HLS.out,HW.out⟩
end
section
open Go.RowKit
end
section
open Go.RowKit
theorem aBK {w:World} {u v:Value} {xs ys:List (List Int)} (hu:kR w u xs) (hv:kR w v ys):Calls Tryz.prog 35 #[u,v] w fun e w'=>e = .returned (.bool (decide (xs=ys)))/\Below w.heap.size w w':=by
 obtain ⟨us,a1,c1,b1,o1,rfl,p1,p2,p3,p4,p5,p6⟩:=hu.parts
 obtain ⟨vs,a2,c2,b2,o2,rfl,q1,q2,q3,q4,q5,q6⟩:=hv.parts
 obtain ⟨n1,hn1⟩ : ∃ n,n=xs.length:=⟨_,rfl⟩
 obtain ⟨n2,hn2⟩ : ∃ n,n=ys.length:=⟨_,rfl⟩
 rw [<-hn1] at p1 p3 p4 ⊢
 rw [<-hn2] at q1 q3 q4 ⊢
 have HN1:=h! hn1
 have HN2:=h! hn2
 have P4:=h! p4
 have P5:=h! p5
 have P6:=h! p6
 have Q4:=h! q4
 have Q5:=h! q5
 have Q6:=h! q6
 clear hu hv hn1 hn2 p4 p5 p6 q4 q5 q6
 have HW:=h! (Below.refl w.heap.size w)
 by_cases hne:n1=n2
 ·subst hne
  go_enter Tryz.func35,Tryz.ntmps35
  go_wp2_with fail
  go_loopw [5] (fun i wr => ∃ k:Nat,k <= n1/\i = .int .i64 k/\(∀ j,j < k -> xs.getD j []=ys.getD j [])/\Below w.heap.size w wr) (fun i _=>n1 - (intOf i).toNat)
  case atStart=>exact ⟨0,aP _,rfl,fun j h=>absurd h (Nat.not_lt_zero _),HW.out⟩
  obtain ⟨k,hk,rfl,hs,hW⟩:=hrel
  have HS:=h! hs
  replace HW:=h! hW
  clear hs hW
  by_cases hlt:k < n1
  ·obtain ⟨rfl,hb1⟩:=P4.out (by omega)
   obtain ⟨rfl,hb2⟩:=Q4.out (by omega)
   have HX:=h! (P6.out k (by have:=HN1.out;omega))
   have HY:=h! (Q6.out k (by have:=HN2.out;omega))
   have C1:=h! ((HW.out.cell (p:=⟨b1,o1+k,none⟩) hb1).trans (P5.out k (by have:=HN1.out;omega)))
   have C2:=h! ((HW.out.cell (p:=⟨b2,o2+k,none⟩) hb2).trans (Q5.out k (by have:=HN2.out;omega)))
   have C1l:=World.block_lt_of_cell? wr _ C1.out
   have C2l:=World.block_lt_of_cell? wr _ C2.out
   obtain ⟨c,hc⟩ : ∃ c,c=decide (xs.getD k []=ys.getD k []):=⟨_,rfl⟩
   have HCC:=h! hc
   have HCT:Hid (∀ w4,Below wr.heap.size wr w4 -> Calls Tryz.prog 18 #[us.getD k undef,vs.getD k undef] w4 fun e w'=>e = .returned (.bool c)/\Below w4.heap.size w4 w'):=h! (fun w4 hb=>by
    rw [hc]
    exact aIB ((HX.out.below HW.out).below hb) ((HY.out.below HW.out).below hb))
   clear hc
   have hfx:=(HX.out).form
   have hfy:=(HY.out).form
   generalize us.getD k undef=uk at *
   generalize vs.getD k undef=vk at *
   obtain ⟨xa,xc,rfl⟩:=hfx
   obtain ⟨ya,yc,rfl⟩:=hfy
   go_upto_region 6 with (fail)
   refine wp_region_grow 10 (fun kz=>match kz with | 8=>.const (.bool c) | _=>.plain) (by kernel_rfl) (by kernel_rfl) ?_ (fun ν => ?_)
   ·(intro k;(try dsimp only);split <;> first | exact True.intro | (intro u w1 w2 hu hb;exact hu.below hb))
   simp only [aK,aR,aM,aT]
   iterate 8 (refine Grow.val (v := ?_) rfl rfl (fun wg hbg hdg => ?_) ?_;rotate_left;(focus ((have hc19:=(hbg.cell (p:=⟨b1,o1+k,none⟩) C1l).trans C1.out;have hc29:=(hbg.cell (p:=⟨b2,o2+k,none⟩) C2l).trans C2.out);clear hbg hdg;first | (go_simp;done) | (go_simp;with_reducible rfl)));simp only [Act.put,aA,aC,aD])
   refine Grow.call (f := ?_) (args := ?_) rfl (fun wg => ?_) (fun wg hbg hdg => ?_) ?_
   rotate_left 2
   focus (first | (go_simp;done) | (go_simp;refine And.intro ?_ ?_ <;> with_reducible rfl) | (go_simp;with_reducible rfl))
   focus exact Calls.mono (HCT.out wg hbg) (fun e w2 ⟨he,hb2⟩=>⟨_,he,rfl,hb2⟩)
   simp only [Act.put,Known.val,aA,aC,aD]
   refine Grow.val (v := ?_) rfl rfl (fun wg hbg hdg => ?_) ?_
   rotate_left
   focus ((have hc19:=(hbg.cell (p:=⟨b1,o1+k,none⟩) C1l).trans C1.out;have hc29:=(hbg.cell (p:=⟨b2,o2+k,none⟩) C2l).trans C2.out);clear hbg hdg;first | (go_simp;done) | (go_simp;with_reducible rfl))
   simp only [Act.put,aA,aC,aD]
   intro wg hb hf hap
   clear hap
   replace HW:=h! (HW.out.trans (hb.mono HW.out.size))
   clear hb
   clear hf
   cases c
   ·have hno:xs.getD k [] ≠ ys.getD k []:=by have:=HCC.out;simpa using this
    have HNO:=h! hno
    clear hno
    go_wp2
    go_ret
    exact ⟨fS (decide_eq_false (fun e=>HNO.out (by rw [e]))).symm,HW.out⟩
   have HYS:Hid (xs.getD k []=ys.getD k []):=h! (by have:=HCC.out;simpa using this)
   go_wp2
   go_roundw
   case rel=>exact ⟨k+1,hlt,by go_num,fun j hj=>by
     by_cases e:j=k
     ·subst e;exact HYS.out
     exact HS.out j (by omega),HW.out⟩
   simp [intOf];omega
  have hkn:k=n1:=by omega
  have HEQ:Hid (xs=ys):=h! (by
   apply bN
   intro j
   have h1:=HN1.out
   have h2:=HN2.out
   by_cases hj:j < n1
   ·have h3:=HS.out j (by omega)
    rw [aH,aH] at h3
    obtain ⟨x,hx⟩ : ∃ x,xs[j]? = some x:=⟨_,aB (by omega)⟩
    obtain ⟨y,hy⟩ : ∃ y,ys[j]? = some y:=⟨_,aB (by omega)⟩
    rw [hx,hy] at h3 ⊢
    simp at h3;rw [h3]
   rw [aW (by omega),aW (by omega)])
  go_wp2
  go_ret
  exact ⟨fS (decide_eq_true HEQ.out).symm,HW.out⟩
 skip
 go_enter Tryz.func35,Tryz.ntmps35
 go_wp2
 go_ret
 exact ⟨fS (decide_eq_false (fun e=>hne (by rw [HN1.out,HN2.out,e]))).symm,HW.out⟩
end
end Go.Proofs.YtcmflfkpeodicaaGreat
