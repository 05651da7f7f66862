/- Part 49. -/
import Derived.Test.YtgmhnepmkaonaaaGreatQA48
import Derived.Test.YtgmhnepmkaonaaaGreatQA46
import Derived.Test.YtgmhnepmkaonaaaGreatQA34
import Derived.Test.YtgmhnepmkaonaaaGreatQA32
namespace Go.Proofs.YtgmhnepmkaonaaaGreat
set_option maxHeartbeats 25600000
set_option linter.unusedSimpArgs false
set_option linter.unusedVariables false
open Go.RowKit
private theorem Since.alloc {w0 W:World} (h:Since w0 W) (o:Obj):Since w0 (W.alloc o):=h.later ((Below.refl _ _).alloc (Nat.le_refl _) o)
theorem all_take {xs:List Int} {q:Int -> Bool} {i:Nat} {x:Int} (h:xs[i]? = some x) (h1:∀ y ∈ xs.take i,q y=true) (h2:q x=true):∀ y ∈ xs.take (i+1),q y=true:=fun y hy=>by
 rw [take_snoc _ _ _ h,List.mem_append,List.mem_singleton] at hy
 rcases hy with hy | rfl
 ·exact h1 y hy
 ·exact h2
set_option maxRecDepth 100000 in
theorem refWithin {w:World} {hd1 pa1 hd2 pa2:Int} {a1 a2 a3 b1 b2 b3:Option Addr} {n1 n2 n3 c1 c2 c3 m1 m2 m3 e1 e2 e3:Nat} {xs ys:List Int} (h1:Ints w (.slice a1 n1 c1) xs) (h2:Ints w (.slice b1 m1 e1) ys) (hn:xs.length=n1) :
  Calls Tryz.prog 73 #[.agg #[.int .i64 hd1,.slice a1 n1 c1,.slice a2 n2 c2,.slice a3 n3 c3,.int .i64 pa1],.agg #[.int .i64 hd2,.slice b1 m1 e1,.slice b2 m2 e2,.slice b3 m3 e3,.int .i64 pa2]] w fun e w'=>e = .returned (.bool (xs.all fun x=>ys.contains x))/\Below w.heap.size w w':=by
 have H1:=hd h1
 have H2:=hd h2
 have HN:=hd hn
 have hn64:=h1.le
 rw [hn] at hn64
 clear h1 h2 hn
 go_enter Tryz.func73,Tryz.ntmps73
 go_upto_region 1 with (fail)
 have B2:Hid (Box ((w.alloc (.cells #[.int .i64 hd1,.slice a1 n1 c1,.slice a2 n2 c2,.slice a3 n3 c3,.int .i64 pa1] 63)).alloc (.cells #[.int .i64 hd2,.slice b1 m1 e1,.slice b2 m2 e2,.slice b3 m3 e3,.int .i64 pa2] 63)) (w.heap.size) #[.int .i64 hd1,.slice a1 n1 c1,.slice a2 n2 c2,.slice a3 n3 c3,.int .i64 pa1]):=hd (by simpa using ((Box.new w #[.int .i64 hd1,.slice a1 n1 c1,.slice a2 n2 c2,.slice a3 n3 c3,.int .i64 pa1] 63).alloc _))
 have B3:Hid (Box ((w.alloc (.cells #[.int .i64 hd1,.slice a1 n1 c1,.slice a2 n2 c2,.slice a3 n3 c3,.int .i64 pa1] 63)).alloc (.cells #[.int .i64 hd2,.slice b1 m1 e1,.slice b2 m2 e2,.slice b3 m3 e3,.int .i64 pa2] 63)) (w.heap.size+1) #[.int .i64 hd2,.slice b1 m1 e1,.slice b2 m2 e2,.slice b3 m3 e3,.int .i64 pa2]):=hd (by simpa using (Box.new (w.alloc (.cells #[.int .i64 hd1,.slice a1 n1 c1,.slice a2 n2 c2,.slice a3 n3 c3,.int .i64 pa1] 63)) #[.int .i64 hd2,.slice b1 m1 e1,.slice b2 m2 e2,.slice b3 m3 e3,.int .i64 pa2] 63))
 have HW:Hid (Below w.heap.size w ((w.alloc (.cells #[.int .i64 hd1,.slice a1 n1 c1,.slice a2 n2 c2,.slice a3 n3 c3,.int .i64 pa1] 63)).alloc (.cells #[.int .i64 hd2,.slice b1 m1 e1,.slice b2 m2 e2,.slice b3 m3 e3,.int .i64 pa2] 63))):=hd (((Below.refl _ _).alloc (Nat.le_refl _) _).alloc (by simp) _)
 generalize ((w.alloc (.cells #[.int .i64 hd1,.slice a1 n1 c1,.slice a2 n2 c2,.slice a3 n3 c3,.int .i64 pa1] 63)).alloc (.cells #[.int .i64 hd2,.slice b1 m1 e1,.slice b2 m2 e2,.slice b3 m3 e3,.int .i64 pa2] 63))=wv at *
 obtain ⟨lB2,cB2,fB2⟩:=B2.out
 obtain ⟨lB3,cB3,fB3⟩:=B3.out
 go_wp2_with fail
 clear lB2 cB2 fB2 lB3 cB3 fB3
 have HWV:=HW
 have B2V:=B2
 have B3V:=B3
 clear HW B2 B3
 go_loopw [5] (fun iv wr => ∃ i:Nat,i <= n1/\iv = .int .i64 i/\(∀ x ∈ xs.take i,ys.contains x=true)/\Below wv.heap.size wv wr) (fun iv _=>n1 - (intOf iv).toNat)
 case atStart=>exact ⟨0,Nat.zero_le _,rfl,(by intro x hx;rw [List.take_zero] at hx;cases hx),Below.refl _ _⟩
 case round =>
  obtain ⟨i,hi,rfl,hall,hb⟩:=hrel
  have HALL:=hd hall
  have HVR:=hd hb
  have HW:Hid (Below w.heap.size w wr):=hd (HWV.out.trans (hb.mono HWV.out.size))
  have B2:=hd (B2V.out.later hb)
  have B3:=hd (B3V.out.later hb)
  have HRR:Hid (Since wv wr):=hd hb
  clear hall hb
  by_cases hlt:i < n1
  ·obtain ⟨x,hx⟩ : ∃ x,xs[i]? = some x:=⟨_,List.getElem?_eq_getElem (by rw [HN.out];exact hlt)⟩
   obtain ⟨gb,go_,gc,he,hgl, -, -,hgx⟩:=ints_cells H1.out (by rw [HN.out];omega)
   rw [HN.out] at he hgx
   injection he with e1' e2' e3'
   subst e1'
   subst e3'
   have HGX:Hid (w.cell? ⟨gb,go_+i,none⟩=some (.int .i64 x)):=hd (by rw [hgx i hlt,getD_some hx])
   obtain ⟨k,hk⟩ : ∃ k,k=ys.contains x:=⟨_,rfl⟩
   have HK:=hd hk
   have HX:=hd hx
   clear hgx hk hx e2'
   obtain ⟨lB2,cB2,fB2⟩:=B2.out
   obtain ⟨lB3,cB3,fB3⟩:=B3.out
   go_upto_region 4 with (fail)
   refine wp_region_grow 9 (fun kz=>match kz with | 7=>.const (.bool k) | _=>.plain) (by kernel_rfl) (by kernel_rfl) ?_ (fun ν => ?_)
   ·(intro k;(try dsimp only);split <;> first | exact True.intro | (intro u w1 w2 hu hb;exact hu.below hb))
   simp only [List.take_succ_cons,List.take_zero,List.drop_succ_cons,List.drop_zero]
   iterate 7 (refine Grow.val (v := ?_) rfl rfl (fun wg hbg hdg => ?_) ?_;rotate_left;(focus ((obtain ⟨lg0,cg0,fg0⟩:=B2.out.later hbg);(obtain ⟨lg1,cg1,fg1⟩:=B3.out.later hbg);(have xg:=((HW.out.trans (hbg.mono HW.out.size)).cell (p:=⟨gb,go_+i,none⟩) hgl).trans HGX.out);clear hbg hdg;first | (go_simp;done) | (go_simp;with_reducible rfl)));simp only [Act.put,List.setIfInBounds_toArray,List.set_cons_zero,List.set_cons_succ])
   refine Grow.call (f := ?_) (args := ?_) rfl (fun wg => ?_) (fun wg hbg hdg => ?_) ?_
   rotate_left 2
   focus (first | (go_simp;done) | (go_simp;refine And.intro ?_ ?_ <;> with_reducible rfl) | (go_simp;with_reducible rfl))
   focus (exact (refHas (x:=x) (H2.out.below (HW.out.trans (hbg.mono HW.out.size)))).mono (fun e w2 ⟨he,hw⟩=>⟨.bool k,by rw [he, <-HK.out],rfl,hw ▸ Below.refl _ _⟩))
   simp only [Act.put,Known.val,List.setIfInBounds_toArray,List.set_cons_zero,List.set_cons_succ]
   refine Grow.val (v := ?_) rfl rfl (fun wg hbg hdg => ?_) ?_
   rotate_left
   focus ((obtain ⟨lg0,cg0,fg0⟩:=B2.out.later hbg);(obtain ⟨lg1,cg1,fg1⟩:=B3.out.later hbg);(have xg:=((HW.out.trans (hbg.mono HW.out.size)).cell (p:=⟨gb,go_+i,none⟩) hgl).trans HGX.out);clear hbg hdg;first | (go_simp;done) | (go_simp;with_reducible rfl))
   simp only [Act.put,List.setIfInBounds_toArray,List.set_cons_zero,List.set_cons_succ]
   intro wg hb hf hap
   clear hap
   clear lB2 cB2 fB2 lB3 cB3 fB3
   replace B2:=hd (B2.out.later hb)
   replace B3:=hd (B3.out.later hb)
   replace HRR:=hd (HRR.out.later hb)
   replace HW:=hd (HW.out.trans (hb.mono HW.out.size))
   clear hb
   obtain ⟨lB2,cB2,fB2⟩:=B2.out
   obtain ⟨lB3,cB3,fB3⟩:=B3.out
   clear hf
   cases k
   ·have HF:Hid ((xs.all fun x=>ys.contains x)=false):=hd (by
     rw [List.all_eq_false]
     exact ⟨x,List.mem_of_getElem? HX.out,by rw [<-HK.out];simp⟩)
    go_wp2
    go_ret
    rw [HF.out]
    exact ⟨rfl,HW.out⟩
   ·have HNX:Hid (∀ y ∈ xs.take (i+1),ys.contains y=true):=hd (all_take (q:=fun y=>ys.contains y) HX.out HALL.out HK.out.symm)
    go_wp2
    clear lB2 cB2 fB2 lB3 cB3 fB3
    go_roundw
    case rel=>exact ⟨i+1,hlt,by go_num,HNX.out,HRR.out⟩
    case measure=>simp [intOf];omega
  ·obtain rfl:n1=i:=by omega
   have HT:Hid ((xs.all fun x=>ys.contains x)=true):=hd (by
    rw [List.all_eq_true]
    have h9:=HALL.out
    rw [List.take_of_length_le (by rw [HN.out];exact Nat.le_refl _)] at h9
    exact h9)
   obtain ⟨lB2,cB2,fB2⟩:=B2.out
   obtain ⟨lB3,cB3,fB3⟩:=B3.out
   go_wp2
   go_ret
   rw [HT.out]
   exact ⟨rfl,HW.out⟩
theorem within_all {ls:List LoopD} {i j:Nat} {a b:LoopD} (ha:ls[i]? = some a) (hb:ls[j]? = some b):((natI a.blocks).all fun x=>(natI b.blocks).contains x)=withinB ls i j:=by
 rw [within_eq ha hb,List.not_any_eq_all_not]
 congr 1
 funext x
 simp
theorem setp_blocks {ls:List LoopD} {i:Nat} {l:LoopD} (hl:ls[i]? = some l) (p:Int) (k:Nat):((ls.set i { l with parent:=p })[k]?).map (·.blocks)=(ls[k]?).map (·.blocks):=by
 rw [List.getElem?_set]
 split
 ·rename_i e
  subst e
  rw [if_pos (List.getElem?_eq_some_iff.1 hl).1,hl];rfl
 ·rfl
def ForestR (f:FuncD) (w:World) (e:Ending) (w' : World):Prop := ∃ (a:Option Addr) (c:Nat) (S:Foot),e = .returned (.slice a (loopsF f).length c)/\OLoops w' S (.slice a (loopsF f).length c) (loopsF f)/\Fresh w.heap.size S/\Below w.heap.size w w'
set_option maxRecDepth 100000 in
theorem refForest {w:World} {v:Value} {f:FuncD} (hv:FuncV w v f) (hf:formB f=true):Calls Tryz.prog 34 #[v] w (ForestR f w):=by
 have HV:=hd hv
 have HF:=hd hf
 obtain ⟨hn1,hn2⟩:=formB_nb hf
 obtain ⟨ap,cp,ab,cb,rfl, -, -, -, -⟩:=hv.form
 obtain ⟨nb,hnb⟩ : ∃ nb,nb=f.blocks.length:=⟨_,rfl⟩
 have HNB:=hd hnb
 rw [<-hnb] at HV hn1 hn2
 rw [<-hnb]
 clear hv hnb hf
 go_enter Tryz.func34,Tryz.ntmps34
 go_upto_region 1 with (fail)
 have B1:Hid (Box (w.alloc (.cells #[.slice ap f.params.length cp,.int .i64 f.arrays,.int .i64 f.cells,.slice ab nb cb] 25)) (w.heap.size) #[.slice ap f.params.length cp,.int .i64 f.arrays,.int .i64 f.cells,.slice ab nb cb]):=hd (by simpa using (Box.new w #[.slice ap f.params.length cp,.int .i64 f.arrays,.int .i64 f.cells,.slice ab nb cb] 25))
 have HW:Hid (Below w.heap.size w (w.alloc (.cells #[.slice ap f.params.length cp,.int .i64 f.arrays,.int .i64 f.cells,.slice ab nb cb] 25))):=hd ((Below.refl _ _).alloc (Nat.le_refl _) _)
 generalize (w.alloc (.cells #[.slice ap f.params.length cp,.int .i64 f.arrays,.int .i64 f.cells,.slice ab nb cb] 25))=wv at *
 obtain ⟨lB1,cB1,fB1⟩:=B1.out
 go_wp2_with fail
 refine (refOver (HV.out.below HW.out) HF.out).mono ?_
 rintro e w2 ⟨ov,rfl,hov,hb⟩
 obtain ⟨oc,ob,oo,rfl,hoc, -,hobl,hox⟩:=hov.parts (by rw [<-HNB.out];omega)
 rw [<-HNB.out] at hox hoc ⊢
 have HOX:=hd hox
 have H22:Hid (Since w2 w2):=hd (Below.refl _ _)
 clear hov hox
 clear lB1 cB1 fB1
 replace B1:=hd (B1.out.later hb)
 replace HW:=hd (HW.out.trans (hb.mono HW.out.size))
 clear hb
 obtain ⟨lB1,cB1,fB1⟩:=B1.out
 go_wp2_with fail
 refine (refPreds (HV.out.below HW.out) HF.out).mono ?_
 rintro e w4 ⟨pv,rfl,hP,hb⟩
 have HPL:=hd hP
 obtain ⟨vs,pa,pc,pb,po,rfl, -, -, -,hpa,hpx,hpi⟩:=hP.parts
 have hpl:(predsF f).length=f.blocks.length:=predI_len _ _ _
 rw [hpl] at hpa hpx hpi HPL
 rw [hpl]
 obtain ⟨rfl,hpbl⟩:=hpa (by rw [<-HNB.out];omega)
 rw [<-HNB.out] at hpx hpi HPL
 rw [<-HNB.out]
 have HPX:Hid (∀ j,j < nb -> w4.cell? ⟨pb,po+j,none⟩=some (vs.getD j undef)/\Ints w4 (vs.getD j undef) (natI (predN f f.blocks.length 0 j))):=hd (fun j hj=>by
  refine ⟨hpx j hj, ?_⟩
  have h9:=hpi j hj
  have h8:(predsF f).getD j []=natI (predN f f.blocks.length 0 j):=by
   unfold predsF
   rw [List.getD_eq_getElem?_getD,predI_at (by rw [<-HNB.out];exact hj)];rfl
  rwa [h8] at h9)
 have H44:Hid (Since w4 w4):=hd (Below.refl _ _)
 clear hP hpa hpx hpi hpl
 clear lB1 cB1 fB1
 replace B1:=hd (B1.out.later hb)
 replace H22:=hd (H22.out.later hb)
 replace HW:=hd (HW.out.trans (hb.mono HW.out.size))
 clear hb
 obtain ⟨lB1,cB1,fB1⟩:=B1.out
 go_upto_region 4 with (fail)
 replace HW:=hd (HW.out.alloc HW.out.size (.cells #[] 63))
 have B13:=hd (B1.out.alloc (.cells #[] 63))
 have H23:=hd (H22.out.alloc (.cells #[] 63))
 have H43:=hd (H44.out.alloc (.cells #[] 63))
 clear lB1 cB1 fB1
 clear B1 H22 H44
 obtain ⟨BZ,hBZ⟩ : ∃ BZ:Addr,BZ=⟨w4.heap.size,0,none⟩:=⟨_,rfl⟩
 rw [<-hBZ]
 clear hBZ
 generalize w4.alloc _=w3 at *
 go_wp2_with fail
 have HW3:=HW
 clear HW
 go_loopw [5,6] (fun ov iv wr => ∃ (j:Nat) (a:Option Addr) (c:Nat) (S:Foot),j <= nb/\ov = .slice a (headsJ f j).length c/\iv = .int .i64 j/\OLoops wr S (.slice a (headsJ f j).length c) ((headsJ f j).map (loopOf f))/\(∀ k,S k -> w3.heap.size <= k)/\Below w3.heap.size w3 wr) (fun _ iv _=>nb - (intOf iv).toNat)
 case atStart=>exact ⟨0,_,0,Foot.none,Nat.zero_le _,rfl,rfl,OSl.nil _,fun k hk=>hk.elim,Below.refl _ _⟩
 case round =>
  obtain ⟨j,a,c,S,hj,rfl,rfl,hol,hsb,hbw⟩:=hrel
  obtain ⟨nh,hnh⟩ : ∃ nh,nh=(headsJ f j).length:=⟨_,rfl⟩
  rw [<-hnh] at hol ⊢
  have HNH:=hd hnh
  have hnh5:nh <= 512:=by rw [hnh];have:=headsJ_len f j;omega
  have HOL:=hd hol
  have HSBS:=hd hsb
  have HB3:Hid (Since w3 wr):=hd hbw
  have H2R:Hid (Since w2 wr):=hd (H23.out.later hbw)
  have H4R:Hid (Since w4 wr):=hd (H43.out.later hbw)
  have HRR:Hid (Since wr wr):=hd (Below.refl _ _)
  have HW:Hid (Below w.heap.size w wr):=hd (HW3.out.trans (hbw.mono HW3.out.size))
  have B1:=hd (B13.out.later hbw)
  clear hnh hol hsb hbw
  obtain ⟨lB1,cB1,fB1⟩:=B1.out
  by_cases hlt:j < nb
  ·obtain ⟨hpc,hpi⟩:=HPX.out j hlt
   obtain ⟨L,hLd⟩ : ∃ L,L=predN f f.blocks.length 0 j:=⟨_,rfl⟩
   rw [<-hLd] at hpi
   obtain ⟨ra,rc,hre⟩:=hpi.form
   rw [hre] at hpc hpi
   obtain ⟨lp,hlp⟩ : ∃ lp,lp=(natI L).length:=⟨_,rfl⟩
   rw [<-hlp] at hpc hpi
   have hpll:lp <= 512:=by rw [hlp,natI_len,hLd];have:=predN_len f j;have:=HNB.out;omega
   have HLP:=hd hlp
   have HPI:=hd hpi
   have HPC:=hd hpc
   have HLD:=hd hLd
   obtain ⟨rj,hrj,hrjl,hrx⟩:=HOX.out j hlt
   have HRJ:=hd hrj
   have HRX:=hd hrx
   clear hpc hpi hlp hLd hre hrj hrx
   have hs3:w3.heap.size <= wr.heap.size:=HB3.out.size
   have hsw:w.heap.size < wr.heap.size:=B1.out.lt
   have hs2:w2.heap.size <= wr.heap.size:=H2R.out.size
   have hs4:w4.heap.size <= wr.heap.size:=H4R.out.size
   obtain ⟨b7,hb7⟩ : ∃ b7,b7=wr.heap.size:=⟨_,rfl⟩
   go_upto_region 8 with (fail)
   have nB7B1:wr.heap.size ≠ w.heap.size:=fun e=>by have:=lB1;omega
   have nB1B7:w.heap.size ≠ wr.heap.size:=fun e=>nB7B1 e.symm
   have B1_:Box (wr.alloc (.cells #[.int .i64 j,.slice none 0 0,.slice none 0 0,.slice none 0 0,.int .i64 0] 63)) (w.heap.size) #[.slice ap f.params.length cp,.int .i64 f.arrays,.int .i64 f.cells,.slice ab nb cb]:=by simpa using (B1.out.alloc _)
   have B7_:Box (wr.alloc (.cells #[.int .i64 j,.slice none 0 0,.slice none 0 0,.slice none 0 0,.int .i64 0] 63)) (wr.heap.size) #[.int .i64 j,.slice none 0 0,.slice none 0 0,.slice none 0 0,.int .i64 0]:=by simpa using (Box.new wr #[.int .i64 j,.slice none 0 0,.slice none 0 0,.slice none 0 0,.int .i64 0] 63)
   have HB3_:=(HB3.out.alloc (.cells #[.int .i64 j,.slice none 0 0,.slice none 0 0,.slice none 0 0,.int .i64 0] 63))
   have H2R_:=(H2R.out.alloc (.cells #[.int .i64 j,.slice none 0 0,.slice none 0 0,.slice none 0 0,.int .i64 0] 63))
   have H4R_:=(H4R.out.alloc (.cells #[.int .i64 j,.slice none 0 0,.slice none 0 0,.slice none 0 0,.int .i64 0] 63))
   have HRR_:=(HRR.out.alloc (.cells #[.int .i64 j,.slice none 0 0,.slice none 0 0,.slice none 0 0,.int .i64 0] 63))
   have HW_:Below w.heap.size w (wr.alloc (.cells #[.int .i64 j,.slice none 0 0,.slice none 0 0,.slice none 0 0,.int .i64 0] 63)):=(HW.out.alloc (by first | exact Nat.le_refl _ | exact HW.out.size | (simp only [World.size_alloc,World.size_setCell];have:=HW.out.size;omega)) _)
   clear lB1 cB1 fB1
   clear B1 HB3 H2R H4R HRR HW
   generalize (wr.alloc (.cells #[.int .i64 j,.slice none 0 0,.slice none 0 0,.slice none 0 0,.int .i64 0] 63))=W1 at *
   have B1:=hd B1_
   clear B1_
   have B7:=hd B7_
   clear B7_
   have HB3:=hd HB3_
   clear HB3_
   have H2R:=hd H2R_
   clear H2R_
   have H4R:=hd H4R_
   clear H4R_
   have HRR:=hd HRR_
   clear HRR_
   have HW:=hd HW_
   clear HW_
   obtain ⟨lB1,cB1,fB1⟩:=B1.out
   obtain ⟨lB7,cB7,fB7⟩:=B7.out
   rw [<-hb7] at B7 hs3 hsw hs2 hs4 ⊢
   have HS7:Hid (∀ k,S k -> k < b7):=hd (fun k hk=>by rw [hb7];exact HOL.out.lt k hk)
   have HOL1:Hid (OLoops W1 S (.slice a nh c) ((headsJ f j).map (loopOf f))):=hd (HOL.out.off OLoop.nice (Off.of_below HRR.out Foot.none) (fun _ _ h=>h))
   clear hb7
   go_wp2_with fail
   clear lB1 cB1 fB1 lB7 cB7 fB7
   have g71:b7 < W1.heap.size:=B7.out.lt
   have HW1:=HW
   have B11:=B1
   have B71:=B7
   have HB31:=HB3
   have H21:=H2R
   have H41:=H4R
   clear HW B1 B7 HB3 H2R H4R HRR HOL
   go_loopw [8] (fun iv wr => ∃ (k:Nat) (a2:Option Addr) (c2:Nat) (SL:Foot),k <= lp/\iv = .int .i64 k/\Box wr b7 #[.int .i64 j,.slice none 0 0,.slice a2 (latJ f j k).length c2,.slice none 0 0,.int .i64 0]/\OInts wr SL (.slice a2 (latJ f j k).length c2) (natI (latJ f j k))/\(∀ q,SL q -> W1.heap.size <= q)/\Off (fun q=>q=b7) W1 wr) (fun iv _=>lp - (intOf iv).toNat)
   case atStart=>exact ⟨0,none,0,Foot.none,Nat.zero_le _,rfl,B71.out,OInts.nil none,fun q hq=>hq.elim,Off.refl _ _⟩
   case round =>
    obtain ⟨k,a2,c2,SL,hk,rfl,hbx,hla,hsl,ho⟩:=hrel
    obtain ⟨nl,hnl⟩ : ∃ nl,nl=(latJ f j k).length:=⟨_,rfl⟩
    have hnl5:nl <= 512:=by rw [hnl];have:=latJ_len f j k;have:=HNB.out;omega
    rw [<-hnl] at hla hbx
    have HNL:=hd hnl
    have HLA:=hd hla
    have HSL:=hd hsl
    have HOF:=hd ho
    have B7:=hd hbx
    have HW:Hid (Below w.heap.size w wr):=hd (HW1.out.trans (ho.below HW1.out.size (fun q _ hq=>by have h9:q=b7:=hq;omega)))
    have H2R:Hid (Since w2 wr):=hd (H21.out.trans (ho.below H21.out.size (fun q _ hq=>by have h9:q=b7:=hq;omega)))
    have H4R:Hid (Since w4 wr):=hd (H41.out.trans (ho.below H41.out.size (fun q _ hq=>by have h9:q=b7:=hq;omega)))
    have B1:=hd (B11.out.off ho (fun hq=>by have h9:w.heap.size=b7:=hq;omega))
    clear hnl hla hsl ho hbx
    have y1:=(H4R.out.cell (p:=⟨pb,po+j,none⟩) hpbl).trans HPC.out
    by_cases hkt:k < lp
    ·obtain ⟨p,hp⟩ : ∃ p,L[k]? = some p:=⟨_,List.getElem?_eq_getElem (by have h9:=HLP.out;rw [natI_len] at h9;omega)⟩
     have hpn:p < nb:=by
      have h9:=List.mem_of_getElem? hp
      rw [HLD.out,predN_zero,List.mem_filter,List.mem_range] at h9
      rw [HNB.out];exact h9.1
     obtain ⟨rb,ro,rc2,he,hrl, -, -,hrx2⟩:=ints_cells HPI.out (by rw [<-HLP.out];omega)
     rw [<-HLP.out] at he hrx2
     injection he with e1 e2 e3
     subst e1
     subst e3
     have hgv:(natI L).getD k 0=(p:Int):=by unfold natI;rw [List.getD_eq_getElem?_getD,List.getElem?_map,hp];rfl
     have HY2:Hid (w4.cell? ⟨rb,ro+k,none⟩=some (.int .i64 p)):=hd (by rw [hrx2 k hkt,hgv])
     have y2:=(H4R.out.cell (p:=⟨rb,ro+k,none⟩) hrl).trans HY2.out
     have x3:=(H2R.out.cell (p:=⟨ob,oo+j,none⟩) hobl).trans HRJ.out
     obtain ⟨xo,hxo,hxi⟩:=HRX.out p hpn
     have x4:=(H2R.out.cell (p:=⟨rj,p,none⟩) hrjl).trans hxo
     have HXI:=hd hxi
     have HPP:Hid ((predN f f.blocks.length 0 j)[k]? = some p):=hd (by rw [<-HLD.out];exact hp)
     clear hgv hp hrx2 e2 hxo hxi
     obtain ⟨lB1,cB1,fB1⟩:=B1.out
     obtain ⟨lB7,cB7,fB7⟩:=B7.out
     go_upto_region 11 with (fail)
     go_quiet (fail)
     clear y1 y2 x3 x4
     clear lB1 cB1 fB1 lB7 cB7 fB7
     obtain ⟨wq,hwq⟩ : ∃ wq,wq=wr.drewN nq:=⟨_,rfl⟩
     have HQ:Hid (Below wr.heap.size wr wq):=hd (by rw [hwq];exact below_drewN (Below.refl _ _) nq)
     rw [<-hwq]
     replace HW:Hid (Below w.heap.size w wq):=hd (HW.out.trans (HQ.out.mono HW.out.size))
     replace B1:=hd (B1.out.later HQ.out)
     replace B7:=hd (B7.out.later HQ.out)
     replace H2R:Hid (Since w2 wq):=hd (H2R.out.later HQ.out)
     replace H4R:Hid (Since w4 wq):=hd (H4R.out.later HQ.out)
     replace HLA:=hd (HLA.out.off (Off.of_below HQ.out Foot.none) (fun _ _ h=>h))
     replace HOF:Hid (Off (fun q=>q=b7) W1 wq):=hd (HOF.out.trans (Off.of_below HQ.out _))
     clear hwq HQ
     cases xo
     ·have HNX:=hd (latJ_no HPP.out (fun h=>by have:=HXI.out.2 h;cases this))
      obtain ⟨lB1,cB1,fB1⟩:=B1.out
      obtain ⟨lB7,cB7,fB7⟩:=B7.out
      go_wp2
      clear lB1 cB1 fB1 lB7 cB7 fB7
      go_roundw
      case rel=>exact ⟨k+1,a2,c2,SL,hkt,by go_num,by rw [HNX.out, <-HNL.out];exact B7.out,by rw [HNX.out, <-HNL.out];exact HLA.out,HSL.out,HOF.out⟩
      case measure=>simp [intOf];omega
     ·have HNX:=hd (latJ_yes HPP.out (HXI.out.1 rfl))
      have HLL:Hid (nl=(natI (latJ f j k)).length):=hd (by rw [natI_len, <-HNL.out])
      have HP64:Hid (In64 (p:Int)):=hd ⟨by omega,by omega⟩
      obtain ⟨XF,hX1,hX2⟩ : ∃ XF:Nat -> Foot,(∀ q k,q ≠ 10 -> ¬ XF q k) /\ ∀ k,XF 10 k ↔ SL k:=⟨fun q=>if q=10 then SL else Foot.none,fun q k hq h=>by simp only [if_neg hq] at h;exact h.elim,fun k=>by simp⟩
      have HX1:=hd hX1
      have HX2:=hd hX2
      have HXA:Hid (∀ k,Four.All XF k -> SL k):=hd (fun k ⟨q,hq⟩=>by
       by_cases e:q=10
       ·subst e;exact (hX2 k).1 hq
       ·exact absurd hq (hX1 q k e))
      clear hX1 hX2
      have xW:∀ q k,XF q k -> k < wq.heap.size:=fun q k h=>HLA.out.lt k (HXA.out k ⟨q,h⟩)
      have xI:∀ w w' : World,True -> Below w.heap.size w w' -> True:=fun _ _ _ _=>trivial
      have xI0:True:=trivial
      have xB7:¬ Four.All XF b7:=fun h=>by have:=HSL.out _ (HXA.out _ h);omega
      have HB72:Hid (¬ SL b7):=hd (fun h=>by have:=HSL.out _ h;omega)
      obtain ⟨lB1,cB1,fB1⟩:=B1.out
      obtain ⟨lB7,cB7,fB7⟩:=B7.out
      go_upto_region 12 with (fail)
      clear lB1 cB1 fB1 lB7 cB7 fB7
      obtain ⟨lB7,cB7,fB7⟩:=B7.out
      refine Four.wp_region_grow (XF:=XF) (I:=(fun _=>True)) 11 (fun ν kz=>match kz with | 9=>.made wq.heap.size (fun b=>.slice (some ⟨b,0,none⟩) 1 1) #[.int .i64 p] | 10=>.holds (fun u w' => ∃ (g1 c1:Nat),u = .slice (some ⟨g1,0,none⟩) (nl+1) c1/\OInts w' (Foot.one g1) u (natI (latJ f j k) ++ [(p:Int)])/\(SL g1 \/ wq.heap.size <= g1)) | _=>.plain) (by kernel_rfl) (by kernel_rfl) ?_ ?_ xW xI xI0 ?_ (fun ν => ?_)
      ·(intro ν k;(try dsimp only);split <;> first | exact True.intro | (intro u w1 w2 hu hb;(obtain ⟨g1,c1,e1,h2,h3⟩:=hu;exact ⟨g1,c1,e1,h2.off hb (fun k _ ⟨q,q1,q2⟩=>HX1.out q k q1 q2),h3⟩)))
      ·(intro ν ν' k h;first | rfl | ((try dsimp only);split <;> first | rfl))
      ·(intro ν j B mk A h;(try dsimp only at h);split at h <;> first | (cases h;exact Nat.le_refl _) | cases h)
      simp only [List.take_succ_cons,List.take_zero,List.drop_succ_cons,List.drop_zero]
      iterate 9 (refine Four.Grow.val (v := ?_) rfl rfl (fun wg hbg hdg => ?_) ?_;rotate_left;(focus ((obtain ⟨lg0,cg0,fg0⟩:=B7.out.off hbg.off xB7);(have hof:Off SL wq wg:=hbg.off.mono (fun k _ hk=>HXA.out k hk);have hw4:Below w4.heap.size w4 wg:=H4R.out.trans (hof.below H4R.out.size (fun q _ hq=>by have:=HSL.out q hq;omega));have y1:=(hw4.cell (p:=⟨pb,po+j,none⟩) hpbl).trans HPC.out;have y2:=(hw4.cell (p:=⟨rb,ro+k,none⟩) hrl).trans HY2.out);clear hbg hdg;first | (go_simp;done) | (go_simp;with_reducible rfl)));simp only [Act.put,List.setIfInBounds_toArray,List.set_cons_zero,List.set_cons_succ])
      refine Four.Grow.made (T := ?_) rfl rfl (fun wg hbg hdg => ?_) ?_
      rotate_left
      focus ((obtain ⟨lg0,cg0,fg0⟩:=B7.out.off hbg.off xB7);(have hof:Off SL wq wg:=hbg.off.mono (fun k _ hk=>HXA.out k hk);have hw4:Below w4.heap.size w4 wg:=H4R.out.trans (hof.below H4R.out.size (fun q _ hq=>by have:=HSL.out q hq;omega));have y1:=(hw4.cell (p:=⟨pb,po+j,none⟩) hpbl).trans HPC.out;have y2:=(hw4.cell (p:=⟨rb,ro+k,none⟩) hrl).trans HY2.out);clear hbg hdg;first | (go_simp;done) | (go_simp;with_reducible rfl))
      simp only [Act.put,Known.val,List.setIfInBounds_toArray,List.set_cons_zero,List.set_cons_succ]
      refine Four.Grow.gives rfl (fun wg hbg hdg => ?_) ?_
      focus ((obtain ⟨bx,e9,hbx,hB9⟩:=hdg 9 (by kernel_rfl));simp only [e9];exact gives_iapp2 (xs:=natI (latJ f j k)) (n:=nl) _ _ rfl rfl rfl HLL.out.symm (HLA.out.off hbg.1 (fun k hk ⟨q,q1,_,q2⟩=>HX1.out q k q1 q2)) hB9 HP64.out (by omega) (fun k hk=>(HX2.out k).2 hk) (fun g1 c1 w'' h2 h3=>⟨g1,c1,rfl,h2,h3.imp_right (Nat.le_trans hbg.1.size)⟩))
      simp only [Act.put,Known.val,List.setIfInBounds_toArray,List.set_cons_zero,List.set_cons_succ]
      intro wg hb hf hap
      obtain ⟨bBN,hνBN,hBBN,hXBN⟩:=hf 9 (by omega)
      have nBNB7:bBN ≠ b7:=fun e=>by have:=lB7;omega
      have nB7BN:b7 ≠ bBN:=fun e=>nBNB7 e.symm
      simp only [hνBN]
      clear hνBN
      clear hap
      clear lB7 cB7 fB7
      replace B7:=hd (B7.out.off hb.1 xB7)
      have BN:=hd hXBN
      clear hXBN
      obtain ⟨lB7,cB7,fB7⟩:=B7.out
      obtain ⟨lBN,cBN,fBN⟩:=BN.out
      have h10:∃ (g1 c1:Nat), ν 10 = .slice (some ⟨g1,0,none⟩) (nl+1) c1/\OInts wg (Foot.one g1) (ν 10) (natI (latJ f j k) ++ [(p:Int)])/\(SL g1 \/ wq.heap.size <= g1):=hf 10 (by omega)
      obtain ⟨g1,c1,e10,hoi,hg1⟩:=h10
      rw [e10] at hoi
      simp only [Nat.zero_add,Nat.reduceAdd,e10]
      have hnat:natI (latJ f j k) ++ [(p:Int)]=natI (latJ f j (k+1)):=by rw [HNX.out];unfold natI;rw [List.map_append];rfl
      rw [hnat] at hoi
      have hof:Off SL wq wg:=hb.1.mono (fun k _ hk=>HXA.out k hk)
      have HL2:Hid ((latJ f j (k+1)).length=nl+1):=hd (by rw [HNX.out,List.length_append, <-HNL.out];rfl)
      have HG1:Hid (W1.heap.size <= g1):=hd (by
       rcases hg1 with h | h
       ·exact HSL.out g1 h
       ·exact Nat.le_trans HOF.out.size h)
      have HON:Hid (OInts (wg.setCell ⟨b7,2,none⟩ (.slice (some ⟨g1,0,none⟩) (nl+1) c1)) (Foot.one g1) (.slice (some ⟨g1,0,none⟩) (nl+1) c1) (natI (latJ f j (k+1)))):=hd (hoi.off (Off.set wg ⟨b7,2,none⟩ _) (fun q h1 h2=>by cases h1;have h9:g1=b7:=h2;have:=HG1.out;omega))
      have HO9:Hid (Off (fun q=>q=b7) W1 (wg.setCell ⟨b7,2,none⟩ (.slice (some ⟨g1,0,none⟩) (nl+1) c1))):=hd ((Off.grow HOF.out hof (fun q hq=>.inr (HSL.out q hq))).trans ((Off.set wg ⟨b7,2,none⟩ _).mono fun q _ hq=>hq))
      have HB9:Hid (Box wg b7 #[.int .i64 j,.slice none 0 0,.slice a2 nl c2,.slice none 0 0,.int .i64 0]):=B7
      clear hoi hof e10 hnat hf hb hg1
      clear lB7 cB7 fB7 lBN cBN fBN
      obtain ⟨lm,cm,fm⟩:=HB9.out
      go_wp2
      clear lm cm fm
      go_roundw
      case rel=>exact ⟨k+1,_,_,Foot.one g1,hkt,by go_num,by rw [HL2.out];simpa using HB9.out.set 2 (.slice (some ⟨g1,0,none⟩) (nl+1) c1),by rw [HL2.out];exact HON.out,fun q hq=>by cases hq;exact HG1.out,HO9.out⟩
      case measure=>simp [intOf];omega
    ·obtain rfl:lp=k:=by omega
     have hall:latJ f j lp=latN f j:=by have h9:=HLP.out;rw [natI_len,HLD.out] at h9;rw [h9];exact latJ_all f j
     rw [hall] at HLA HNL
     have HOLR:Hid (OLoops wr S (.slice a nh c) ((headsJ f j).map (loopOf f))):=hd (HOL1.out.off OLoop.nice HOF.out (fun q hq e=>by have h9:q=b7:=e;have:=HS7.out q hq;omega))
     have HB3R:Hid (Below w3.heap.size w3 wr):=hd (HB31.out.trans (HOF.out.below HB31.out.size (fun q _ hq=>by have h9:q=b7:=hq;omega)))
     clear hall hk hkt
     by_cases hnil:latN f j=[]
     ·have hz:nl=0:=by rw [HNL.out,hnil];rfl
      have HNX:=hd (headsJ_old hnil)
      have hng:¬ 0 < nl:=by omega
      clear hnil hz
      obtain ⟨lB1,cB1,fB1⟩:=B1.out
      obtain ⟨lB7,cB7,fB7⟩:=B7.out
      go_wp2
      clear y1
      clear lB1 cB1 fB1 lB7 cB7 fB7
      go_roundw
      case rel=>exact ⟨j+1,a,c,S,hlt,by rw [HNX.out, <-HNH.out],by go_num,by rw [HNX.out, <-HNH.out];exact HOLR.out,HSBS.out,HB3R.out⟩
      case measure=>simp [intOf];omega
     ·have hng:0 < nl:=by rw [HNL.out];exact List.length_pos_iff.2 hnil
      have HNX:=hd (headsJ_new hnil)
      clear hnil
      obtain ⟨lB1,cB1,fB1⟩:=B1.out
      obtain ⟨lB7,cB7,fB7⟩:=B7.out
      go_wp2_with fail
      clear y1
      clear lB1 cB1 fB1 lB7 cB7 fB7
      refine (refBlocks (h:=j) (HV.out.below HW.out) HF.out (by rw [<-HNB.out];exact hlt) HLA.out.ints (HPL.out.below H4R.out)).mono ?_
      rintro e w9 ⟨a5,a6,c5,c6,S5,S6,rfl,h5,h6,hf5,hf6,hb9⟩
      have hsz9:=hb9.size
      have hszr:W1.heap.size <= wr.heap.size:=HOF.out.size
      have hs31:w3.heap.size <= W1.heap.size:=HB31.out.size
      have HEL:=hd (oloop_of (f:=f) (base:=w3.heap.size) HNL.out h5 (HLA.out.off (Off.of_below hb9 Foot.none) (fun _ _ h=>h)) h6 (fun q hq=>by have:=hf5 q hq;omega) (fun q hq=>by have:=HSL.out q hq;omega) (fun q hq=>by have:=hf6 q hq;omega))
      have HKP:Hid (Holds [] w3.heap.size w9 S (fun W=>OLoops W S (.slice a nh c) ((headsJ f j).map (loopOf f)))):=hd ((holds_sl OLoop.nice HOLR.out (fun k hk=>HSBS.out k hk)).later hb9)
      have HFK:Hid (Foot.off (fun k=>S5 k \/ SL k \/ S6 k) S):=hd (fun q h1 h2=>by
       have h9:=HS7.out q h2
       rcases h1 with h | h | h
       ·have:=hf5 q h;omega
       ·have:=HSL.out q h;omega
       ·have:=hf6 q h;omega)
      have HB39:Hid (Below w3.heap.size w3 w9):=hd (HB3R.out.trans (hb9.mono HB3R.out.size))
      have HLEN:Hid (((headsJ f j).map (loopOf f)).length=nh):=hd (by rw [List.length_map, <-HNH.out])
      have hp1:∀ b ∈ ([] : List Nat),b < w3.heap.size:=by intro b hb;cases hb
      have hp5:∀ o:Obj,w3.heap.size <= (w9.alloc o).heap.size:=fun o=>by rw [World.size_alloc];omega
      have hp2:nh+1 <= 17592186044416:=by omega
      have hp3:(nh+1) * 88 <= 140737488355328:=by omega
      have hp4:∀ u ∈ ([.int .i64 j,.slice a5 (bodyN f j).length c5,.slice a2 nl c2,.slice a6 (exitN f j).length c6,.int .i64 0] : List Value),u.oneCell' = true:=by simp [Value.oneCell']
      clear h5 h6 hf5 hf6 hb9 hsz9
      go_wp2_with (at_builtin;go_loud (refine wpList_osnoc OLoop.nice rfl _ _ 53 63 rfl elLoop rfl rfl HLEN.out (HKP.out.alloc _) (Box.new _ _ _) rfl (HEL.out.alloc _).now HFK.out HEL.out.base hp1 (hp5 _) hp4 hp2 hp3 ?_);intro v2 w10 SN q1 q2 q3 q4;obtain ⟨g2,c9,rfl⟩:=q4)
      have hmap:(headsJ f j).map (loopOf f) ++ [loopOf f j]=(headsJ f (j+1)).map (loopOf f):=by rw [HNX.out,List.map_append];rfl
      rw [hmap] at q1
      have HQ1:=hd q1
      have HL2:Hid ((headsJ f (j+1)).length=nh+1):=hd (by rw [HNX.out,List.length_append, <-HNH.out];rfl)
      have HBX:Hid (Below w3.heap.size w3 w10):=hd ((HB39.out.trans ((Below.refl _ _).alloc HB39.out.size _)).trans (q3.below (by have:=HB39.out.size;simp;omega) (fun q _ hq=>HSBS.out q hq)))
      clear q1 q2 q3 hmap hp1 hp5 hp2 hp3 hp4
      go_roundw
      case rel=>exact ⟨j+1,_,_,SN,hlt,by rw [HL2.out],by go_num,by rw [HL2.out];exact HQ1.out.now,HQ1.out.base,HBX.out⟩
      case measure=>simp [intOf];omega
  ·have HHE:Hid (headsJ f j=headsN f):=hd (by
    have h9:j=f.blocks.length:=by have:=HNB.out;omega
    rw [h9];exact headsJ_all f)
   have HN9:Hid (nh=(headsN f).length):=hd (by rw [HNH.out,HHE.out])
   have HO0:Hid (OLoops wr S (.slice a nh c) (parL f 0)):=hd (by rw [parL_zero];have h9:=HOL.out;rw [HHE.out] at h9;exact h9)
   have hl0:(loops0 f).length=nh:=by rw [loops0_len,HN9.out]
   have HL0:=hd hl0
   have HPF:=hd (fun i n (hn:n <= (loops0 f).length)=>parent_fold (ls:=loops0 f) (i:=i) n hn)
   have HBLK:Hid (∀ (i:Nat) (l:LoopD),(loops0 f)[i]? = some l -> l.blocks.length <= 512):=hd (fun i l h=>by
    have h1:l ∈ parL f 0:=by rw [parL_zero];exact List.mem_of_getElem? h
    have:=(loops_rise l h1).2
    have:=HNB.out
    omega)
   clear HHE HNH HOL hl0
   go_wp2_with fail
   clear lB1 cB1 fB1
   clear hlt hj
   obtain ⟨W3,hW3⟩ : ∃ W3,W3=wr:=⟨_,rfl⟩
   rw [<-hW3] at HO0 HW HRR HB3 H2R H4R B1 ⊢
   clear hW3
   have HW9:=HW
   have HO3:=HO0
   clear HW HO0 HRR HB3 H2R H4R B1
   go_loopw [9] (fun iv wr => ∃ i:Nat,i <= nh/\iv = .int .i64 i/\OLoops wr S (.slice a nh c) (parL f i)/\Off S W3 wr) (fun iv _=>nh - (intOf iv).toNat)
   case atStart=>exact ⟨0,Nat.zero_le _,rfl,HO3.out,Off.refl _ _⟩
   case round =>
    obtain ⟨i,hi,rfl,hol,ho⟩:=hrel
    have HOL:=hd hol
    have HOF:=hd ho
    clear hol ho
    by_cases hit:i < nh
    ·obtain ⟨l,hl⟩ : ∃ l,(parL f i)[i]? = some l:=⟨_,List.getElem?_eq_getElem (by rw [parL_len, <-HN9.out];exact hit)⟩
     obtain ⟨ga,cap,hv,hcap,hSg,hgl,hcell,hfr,hset⟩:=HOL.out.par hl
     have HL:=hd hl
     injection hv with e1 e2 e3
     subst e1
     subst e3
     have HSG:=hd hSg
     have HSET:Hid (OLoops (wr.setCell ⟨ga,i * 5+4,none⟩ (.int .i64 (-1))) S (.slice (some ⟨ga,0,none⟩) nh c) ((parL f i).set i { l with parent:=(List.range 0).foldl (parStep (loops0 f) i) (-1) })):=hd (hset (-1))
     have HOX:Hid (Off S W3 (wr.setCell ⟨ga,i * 5+4,none⟩ (.int .i64 (-1)))):=hd (HOF.out.trans ((Off.set wr ⟨ga,i * 5+4,none⟩ _).mono fun q _ h=>by have h9:q=ga:=h;rw [h9];exact hSg))
     rw [<-e2] at hcap
     clear hl hSg hset e2
     go_wp2_with fail
     clear hcell hfr
     go_loopw [10] (fun iv wr => ∃ k:Nat,k <= nh/\iv = .int .i64 k/\OLoops wr S (.slice (some ⟨ga,0,none⟩) nh c) ((parL f i).set i { l with parent:=(List.range k).foldl (parStep (loops0 f) i) (-1) })/\Off S W3 wr) (fun iv _=>nh - (intOf iv).toNat)
     case atStart=>exact ⟨0,Nat.zero_le _,rfl,HSET.out,HOX.out⟩
     case round =>
      obtain ⟨k,hk,rfl,hol,ho⟩:=hrel
      clear HOL HOF HSET HOX
      have HOL:=hd hol
      have HOF:=hd ho
      clear hol ho
      obtain ⟨bst,hbst⟩ : ∃ bst,bst=(List.range k).foldl (parStep (loops0 f) i) (-1):=⟨_,rfl⟩
      rw [<-hbst] at HOL
      have HBS:=hd hbst
      have hbr:=HPF.out i k (by rw [HL0.out];exact hk)
      rw [<-hbst] at hbr
      clear hbst
      by_cases hkt:k < nh
      ·obtain ⟨M,hM⟩ : ∃ M,M=(parL f i).set i { l with parent:=bst }:=⟨_,rfl⟩
       have hMl:M.length=nh:=by rw [hM,List.length_set,parL_len,HN9.out]
       have hMb:∀ q:Nat,(M[q]?).map (·.blocks)=((loops0 f)[q]?).map (·.blocks):=fun q=>by rw [hM,setp_blocks HL.out,parL_blocks]
       have hMi:M[i]? = some { l with parent:=bst }:=by rw [hM,List.getElem?_set_self (List.getElem?_eq_some_iff.1 HL.out).1]
       rw [<-hM] at HOL
       have HM:=hd hM
       have HMB:=hd hMb
       have HMI:=hd hMi
       have HV9:Hid (LoopsV wr (.slice (some ⟨ga,0,none⟩) M.length c) M):=hd (by rw [hMl];exact HOL.out.reads (fun _ _ _ h=>h.reads))
       obtain ⟨a9,c9,b0,o0,he, -, -, -,ha,hx⟩:=loops_parts HV9.out
       obtain ⟨ha,hbl0⟩:=ha (by omega)
       rw [ha] at he
       injection he with e1 e2 e3
       injection e1 with e1
       injection e1 with e1 e4 e5
       subst e1
       subst e4
       subst e3
       have HX:=hd hx
       obtain ⟨mk,hmk⟩ : ∃ mk,M[k]? = some mk:=⟨_,List.getElem?_eq_getElem (by rw [hMl];exact hkt)⟩
       have HMK:=hd hmk
       obtain ⟨wi,hwi⟩ : ∃ wi,wi=withinB (loops0 f) i k:=⟨_,rfl⟩
       have HWI:=hd hwi
       have HWA:Hid (((natI l.blocks).all fun x=>(natI mk.blocks).contains x)=wi):=hd (by rw [hwi, <-within_same (ls:=M) (ms:=loops0 f) hMb];exact within_all (a := { l with parent:=bst }) hMi hmk)
       have HSZ:Hid (∀ (q:Nat) (m:LoopD),M[q]? = some m -> sizeL (loops0 f) q=m.blocks.length/\m.blocks.length <= 512):=hd (fun q m hq=>by
        have h9:=hMb q
        rw [hq] at h9
        cases h0:(loops0 f)[q]? with
        | none=>rw [h0] at h9;simp at h9
        | some m0 =>
         rw [h0] at h9
         simp at h9
         refine ⟨?_,by rw [h9];exact HBLK.out q m0 h0⟩
         unfold sizeL
         rw [h0,h9])
       have HSAME:Hid (parStep (loops0 f) i bst k=bst -> (List.range (k+1)).foldl (parStep (loops0 f) i) (-1)=bst):=hd (fun h=>by rw [par_step, <-HBS.out,h])
       have HTAKE:Hid (parStep (loops0 f) i bst k=k -> (List.range (k+1)).foldl (parStep (loops0 f) i) (-1)=k):=hd (fun h=>by rw [par_step, <-HBS.out,h])
       obtain ⟨i1,i2,i3,d1,d2,d3,hCI⟩:=hx i _ hMi
       obtain ⟨k1,k2,k3,f1,f2,f3,hCK⟩:=hx k mk hmk
       have HCI:=hd hCI
       have HCK:=hd hCK
       have hkl:=(HSZ.out k mk hmk).2
       have hil:=(HSZ.out i _ hMi).2
       have HSK:Hid (sizeL (loops0 f) k=mk.blocks.length):=hd (HSZ.out k mk hmk).1
       obtain ⟨n1,hn1'⟩ : ∃ n1,n1=mk.blocks.length:=⟨_,rfl⟩
       obtain ⟨n0,hn0'⟩ : ∃ n0,n0=l.blocks.length:=⟨_,rfl⟩
       have HRR:Hid (Since wr wr):=hd (Below.refl _ _)
       clear hM hMb hMi hmk hwi hx ha hCI hCK hMl e2 e5
       by_cases hki:k=i
       ·have HNX:=hd (HSAME.out (by unfold parStep;rw [if_neg (fun h=>h.1 hki)]))
        have hq:((k:Int) != (i:Int))=false:=by simp [hki]
        go_upto_region 22 with (fail)
        refine wp_region_grow 41 (fun _=>.plain) (by kernel_rfl) (by kernel_rfl) ?_ (fun ν => ?_)
        ·exact fun _=>trivial
        simp only [List.take_succ_cons,List.take_zero,List.drop_succ_cons,List.drop_zero]
        iterate 4 (refine Grow.val (v := ?_) rfl rfl (fun wg hbg hdg => ?_) ?_;rotate_left;(focus (clear hbg hdg;first | (go_simp;done) | (go_simp;with_reducible rfl)));simp only [Act.put,List.setIfInBounds_toArray,List.set_cons_zero,List.set_cons_succ])
        iterate 9 (refine Grow.skip rfl rfl ?_;simp only [Act.put,List.setIfInBounds_toArray,List.set_cons_zero,List.set_cons_succ])
        iterate 2 (refine Grow.val (v := ?_) rfl rfl (fun wg hbg hdg => ?_) ?_;rotate_left;(focus (clear hbg hdg;first | (go_simp;done) | (go_simp;with_reducible rfl)));simp only [Act.put,List.setIfInBounds_toArray,List.set_cons_zero,List.set_cons_succ])
        iterate 25 (refine Grow.skip rfl rfl ?_;simp only [Act.put,List.setIfInBounds_toArray,List.set_cons_zero,List.set_cons_succ])
        refine Grow.val (v := ?_) rfl rfl (fun wg hbg hdg => ?_) ?_
        rotate_left
        focus (clear hbg hdg;first | (go_simp;done) | (go_simp;with_reducible rfl))
        simp only [Act.put,List.setIfInBounds_toArray,List.set_cons_zero,List.set_cons_succ]
        intro wg hb hf hap
        clear hap
        replace HRR:=hd (HRR.out.later hb)
        clear hf
        go_wp2
        go_roundw
        case rel=>exact ⟨k+1,hkt,by go_num,by rw [HNX.out, <-HM.out];exact HOL.out.off OLoop.nice (Off.of_below HRR.out Foot.none) (fun _ _ h=>h),HOF.out.trans (Off.of_below HRR.out _)⟩
        case measure=>simp [intOf];omega
       ·have hq:((k:Int) != (i:Int))=true:=by simp;omega
        have HKI:=hd hki
        have HCALL:Hid (∀ wg:World,Below wr.heap.size wr wg -> Calls Tryz.prog 73 #[.agg #[.int .i64 l.head,.slice i1 l.blocks.length d1,.slice i2 l.latches.length d2,.slice i3 l.exits.length d3,.int .i64 bst],.agg #[.int .i64 mk.head,.slice k1 mk.blocks.length f1,.slice k2 mk.latches.length f2,.slice k3 mk.exits.length f3,.int .i64 mk.parent]] wg fun e w'=>e = .returned (.bool wi)/\Below wg.heap.size wg w'):=hd (fun wg hbg=>by
         have h9:=refWithin (w:=wg) (hd1:=l.head) (pa1:=bst) (hd2:=mk.head) (pa2:=mk.parent) (a2:=i2) (a3:=i3) (b2:=k2) (b3:=k3) (n2:=l.latches.length) (n3:=l.exits.length) (c2:=d2) (c3:=d3) (m2:=mk.latches.length) (m3:=mk.exits.length) (e2:=f2) (e3:=f3) (HCI.out.blocks.below hbg) (HCK.out.blocks.below hbg) (natI_len _)
         rw [HWA.out] at h9
         exact h9)
        clear hki
        cases wi
        ·have HNX:=hd (HSAME.out (by unfold parStep;rw [if_neg (fun h=>by have h9:=h.2.1;rw [<-HWI.out] at h9;cases h9)]))
         go_upto_region 22 with (fail)
         refine wp_region_grow 41 (fun kz=>match kz with | 12=>.const (.bool false) | _=>.plain) (by kernel_rfl) (by kernel_rfl) ?_ (fun ν => ?_)
         ·(intro k;(try dsimp only);split <;> first | exact True.intro | (intro u w1 w2 hu hb;exact hu.below hb))
         simp only [List.take_succ_cons,List.take_zero,List.drop_succ_cons,List.drop_zero]
         iterate 12 (refine Grow.val (v := ?_) rfl rfl (fun wg hbg hdg => ?_) ?_;rotate_left;(focus ((obtain ⟨p0,p1,p2,p3,p4, -, -, -⟩:=HCI.out.below hbg hbl0;obtain ⟨q0,q1,q2,q3,q4, -, -, -⟩:=HCK.out.below hbg hbl0;simp only [Nat.zero_add] at p0 p1 p2 p3 p4 q0 q1 q2 q3 q4);clear hbg hdg;first | (go_simp;done) | (go_simp;with_reducible rfl)));simp only [Act.put,List.setIfInBounds_toArray,List.set_cons_zero,List.set_cons_succ])
         refine Grow.call (f := ?_) (args := ?_) rfl (fun wg => ?_) (fun wg hbg hdg => ?_) ?_
         rotate_left 2
         focus (first | (go_simp;done) | (go_simp;refine And.intro ?_ ?_ <;> with_reducible rfl) | (go_simp;with_reducible rfl))
         focus exact Calls.mono (HCALL.out wg hbg) (fun e w2 ⟨he,hb2⟩=>⟨_,he,rfl,hb2⟩)
         simp only [Act.put,Known.val,List.setIfInBounds_toArray,List.set_cons_zero,List.set_cons_succ]
         iterate 2 (refine Grow.val (v := ?_) rfl rfl (fun wg hbg hdg => ?_) ?_;rotate_left;(focus ((obtain ⟨p0,p1,p2,p3,p4, -, -, -⟩:=HCI.out.below hbg hbl0;obtain ⟨q0,q1,q2,q3,q4, -, -, -⟩:=HCK.out.below hbg hbl0;simp only [Nat.zero_add] at p0 p1 p2 p3 p4 q0 q1 q2 q3 q4);clear hbg hdg;first | (go_simp;done) | (go_simp;with_reducible rfl)));simp only [Act.put,List.setIfInBounds_toArray,List.set_cons_zero,List.set_cons_succ])
         iterate 25 (refine Grow.skip rfl rfl ?_;simp only [Act.put,List.setIfInBounds_toArray,List.set_cons_zero,List.set_cons_succ])
         refine Grow.val (v := ?_) rfl rfl (fun wg hbg hdg => ?_) ?_
         rotate_left
         focus ((obtain ⟨p0,p1,p2,p3,p4, -, -, -⟩:=HCI.out.below hbg hbl0;obtain ⟨q0,q1,q2,q3,q4, -, -, -⟩:=HCK.out.below hbg hbl0;simp only [Nat.zero_add] at p0 p1 p2 p3 p4 q0 q1 q2 q3 q4);clear hbg hdg;first | (go_simp;done) | (go_simp;with_reducible rfl))
         simp only [Act.put,List.setIfInBounds_toArray,List.set_cons_zero,List.set_cons_succ]
         intro wg hb hf hap
         clear hap
         replace HRR:=hd (HRR.out.later hb)
         clear hf
         go_wp2
         go_roundw
         case rel=>exact ⟨k+1,hkt,by go_num,by rw [HNX.out, <-HM.out];exact HOL.out.off OLoop.nice (Off.of_below HRR.out Foot.none) (fun _ _ h=>h),HOF.out.trans (Off.of_below HRR.out _)⟩
         case measure=>simp [intOf];omega
        ·by_cases hneg:bst < 0
         ·have HNX:=hd (HTAKE.out (by unfold parStep;rw [if_pos ⟨HKI.out,HWI.out.symm,.inl hneg⟩]))
          have ht:decide (bst < 0)=true:=by simpa using hneg
          go_upto_region 22 with (fail)
          refine wp_region_grow 41 (fun kz=>match kz with | 12=>.const (.bool true) | _=>.plain) (by kernel_rfl) (by kernel_rfl) ?_ (fun ν => ?_)
          ·(intro k;(try dsimp only);split <;> first | exact True.intro | (intro u w1 w2 hu hb;exact hu.below hb))
          simp only [List.take_succ_cons,List.take_zero,List.drop_succ_cons,List.drop_zero]
          iterate 12 (refine Grow.val (v := ?_) rfl rfl (fun wg hbg hdg => ?_) ?_;rotate_left;(focus ((obtain ⟨p0,p1,p2,p3,p4, -, -, -⟩:=HCI.out.below hbg hbl0;obtain ⟨q0,q1,q2,q3,q4, -, -, -⟩:=HCK.out.below hbg hbl0;simp only [Nat.zero_add] at p0 p1 p2 p3 p4 q0 q1 q2 q3 q4);clear hbg hdg;first | (go_simp;done) | (go_simp;with_reducible rfl)));simp only [Act.put,List.setIfInBounds_toArray,List.set_cons_zero,List.set_cons_succ])
          refine Grow.call (f := ?_) (args := ?_) rfl (fun wg => ?_) (fun wg hbg hdg => ?_) ?_
          rotate_left 2
          focus (first | (go_simp;done) | (go_simp;refine And.intro ?_ ?_ <;> with_reducible rfl) | (go_simp;with_reducible rfl))
          focus exact Calls.mono (HCALL.out wg hbg) (fun e w2 ⟨he,hb2⟩=>⟨_,he,rfl,hb2⟩)
          simp only [Act.put,Known.val,List.setIfInBounds_toArray,List.set_cons_zero,List.set_cons_succ]
          iterate 9 (refine Grow.val (v := ?_) rfl rfl (fun wg hbg hdg => ?_) ?_;rotate_left;(focus ((obtain ⟨p0,p1,p2,p3,p4, -, -, -⟩:=HCI.out.below hbg hbl0;obtain ⟨q0,q1,q2,q3,q4, -, -, -⟩:=HCK.out.below hbg hbl0;simp only [Nat.zero_add] at p0 p1 p2 p3 p4 q0 q1 q2 q3 q4);clear hbg hdg;first | (go_simp;done) | (go_simp;with_reducible rfl)));simp only [Act.put,List.setIfInBounds_toArray,List.set_cons_zero,List.set_cons_succ])
          iterate 17 (refine Grow.skip rfl rfl ?_;simp only [Act.put,List.setIfInBounds_toArray,List.set_cons_zero,List.set_cons_succ])
          iterate 2 (refine Grow.val (v := ?_) rfl rfl (fun wg hbg hdg => ?_) ?_;rotate_left;(focus ((obtain ⟨p0,p1,p2,p3,p4, -, -, -⟩:=HCI.out.below hbg hbl0;obtain ⟨q0,q1,q2,q3,q4, -, -, -⟩:=HCK.out.below hbg hbl0;simp only [Nat.zero_add] at p0 p1 p2 p3 p4 q0 q1 q2 q3 q4);clear hbg hdg;first | (go_simp;done) | (go_simp;with_reducible rfl)));simp only [Act.put,List.setIfInBounds_toArray,List.set_cons_zero,List.set_cons_succ])
          intro wg hb hf hap
          clear hap
          replace HRR:=hd (HRR.out.later hb)
          clear hf
          obtain ⟨g2,cap2,hv2, -, -, -,hcell,hfr,hset⟩:=OLoops.par (HOL.out.off OLoop.nice (Off.of_below HRR.out Foot.none) (fun _ _ h=>h)) HMI.out
          injection hv2 with y1 y2 y3
          injection y1 with y1
          injection y1 with y1
          subst y1
          have HNS:Hid (OLoops (wg.setCell ⟨ga,i * 5+4,none⟩ (.int .i64 k)) S (.slice (some ⟨ga,0,none⟩) nh c) ((parL f i).set i { l with parent:=(List.range (k+1)).foldl (parStep (loops0 f) i) (-1) })):=hd (by
           have h9:=hset (k:Int)
           rw [HM.out,List.set_set] at h9
           rw [HNX.out]
           exact h9)
          have HNO:Hid (Off S W3 (wg.setCell ⟨ga,i * 5+4,none⟩ (.int .i64 k))):=hd ((HOF.out.trans (Off.of_below HRR.out _)).trans ((Off.set wg ⟨ga,i * 5+4,none⟩ _).mono fun q _ h=>by have h9:q=ga:=h;rw [h9];exact HSG.out))
          clear hset y2
          go_wp2
          clear hcell hfr
          go_roundw
          case rel=>exact ⟨k+1,hkt,by go_num,HNS.out,HNO.out⟩
          case measure=>simp [intOf];omega
         ·have ht:decide (bst < 0)=false:=by simpa using hneg
          obtain ⟨b2,hb2⟩ : ∃ b2:Nat,bst=b2:=⟨bst.toNat,by omega⟩
          have hb2k:b2 < k:=by rcases hbr with h | h;omega;omega
          obtain ⟨mq,hmq⟩ : ∃ mq,M[b2]? = some mq:=⟨_,List.getElem?_eq_getElem (by have h9:=HM.out;rw [h9,List.length_set,parL_len, <-HN9.out];omega)⟩
          obtain ⟨q1,q2,q3,g1,g2,g3,hCQ⟩:=HX.out b2 mq hmq
          have HCQ:=hd hCQ
          have hql:=(HSZ.out b2 mq hmq).2
          have HSQ:Hid (sizeL (loops0 f) b2=mq.blocks.length):=hd (HSZ.out b2 mq hmq).1
          have hb2n:b2 < nh:=by omega
          have HB2:=hd hb2
          clear hmq hCQ hbr
          by_cases hless:mk.blocks.length < mq.blocks.length
          ·have HNX:=hd (HTAKE.out (by unfold parStep;rw [if_pos ⟨HKI.out,HWI.out.symm,.inr (by rw [hb2,Int.toNat_natCast,HSK.out,HSQ.out];exact hless)⟩]))
           have ht2:decide ((mk.blocks.length:Int) < (mq.blocks.length:Int))=true:=by simpa using hless
           subst hb2
           go_upto_region 22 with (fail)
           refine wp_region_grow 41 (fun kz=>match kz with | 12=>.const (.bool true) | _=>.plain) (by kernel_rfl) (by kernel_rfl) ?_ (fun ν => ?_)
           ·(intro k;(try dsimp only);split <;> first | exact True.intro | (intro u w1 w2 hu hb;exact hu.below hb))
           simp only [List.take_succ_cons,List.take_zero,List.drop_succ_cons,List.drop_zero]
           iterate 12 (refine Grow.val (v := ?_) rfl rfl (fun wg hbg hdg => ?_) ?_;rotate_left;(focus ((obtain ⟨p0,p1,p2,p3,p4, -, -, -⟩:=HCI.out.below hbg hbl0;obtain ⟨q0,q1,q2,q3,q4, -, -, -⟩:=HCK.out.below hbg hbl0;obtain ⟨-,r1, -, -, -, -, -, -⟩:=HCQ.out.below hbg hbl0;simp only [Nat.zero_add] at p0 p1 p2 p3 p4 q0 q1 q2 q3 q4 r1);clear hbg hdg;first | (go_simp;done) | (go_simp;with_reducible rfl)));simp only [Act.put,List.setIfInBounds_toArray,List.set_cons_zero,List.set_cons_succ])
           refine Grow.call (f := ?_) (args := ?_) rfl (fun wg => ?_) (fun wg hbg hdg => ?_) ?_
           rotate_left 2
           focus (first | (go_simp;done) | (go_simp;refine And.intro ?_ ?_ <;> with_reducible rfl) | (go_simp;with_reducible rfl))
           focus exact Calls.mono (HCALL.out wg hbg) (fun e w2 ⟨he,hb2⟩=>⟨_,he,rfl,hb2⟩)
           simp only [Act.put,Known.val,List.setIfInBounds_toArray,List.set_cons_zero,List.set_cons_succ]
           iterate 28 (refine Grow.val (v := ?_) rfl rfl (fun wg hbg hdg => ?_) ?_;rotate_left;(focus ((obtain ⟨p0,p1,p2,p3,p4, -, -, -⟩:=HCI.out.below hbg hbl0;obtain ⟨q0,q1,q2,q3,q4, -, -, -⟩:=HCK.out.below hbg hbl0;obtain ⟨-,r1, -, -, -, -, -, -⟩:=HCQ.out.below hbg hbl0;simp only [Nat.zero_add] at p0 p1 p2 p3 p4 q0 q1 q2 q3 q4 r1);clear hbg hdg;first | (go_simp;done) | (go_simp;with_reducible rfl)));simp only [Act.put,List.setIfInBounds_toArray,List.set_cons_zero,List.set_cons_succ])
           intro wg hb hf hap
           clear hap
           replace HRR:=hd (HRR.out.later hb)
           clear hf
           obtain ⟨g2,cap2,hv2, -, -, -,hcell,hfr,hset⟩:=OLoops.par (HOL.out.off OLoop.nice (Off.of_below HRR.out Foot.none) (fun _ _ h=>h)) HMI.out
           injection hv2 with y1 y2 y3
           injection y1 with y1
           injection y1 with y1
           subst y1
           have HNS:Hid (OLoops (wg.setCell ⟨ga,i * 5+4,none⟩ (.int .i64 k)) S (.slice (some ⟨ga,0,none⟩) nh c) ((parL f i).set i { l with parent:=(List.range (k+1)).foldl (parStep (loops0 f) i) (-1) })):=hd (by
            have h9:=hset (k:Int)
            rw [HM.out,List.set_set] at h9
            rw [HNX.out]
            exact h9)
           have HNO:Hid (Off S W3 (wg.setCell ⟨ga,i * 5+4,none⟩ (.int .i64 k))):=hd ((HOF.out.trans (Off.of_below HRR.out _)).trans ((Off.set wg ⟨ga,i * 5+4,none⟩ _).mono fun q _ h=>by have h9:q=ga:=h;rw [h9];exact HSG.out))
           clear hset y2
           go_wp2
           clear hcell hfr
           go_roundw
           case rel=>exact ⟨k+1,hkt,by go_num,HNS.out,HNO.out⟩
           case measure=>simp [intOf];omega
          ·have HNX:=hd (HSAME.out (by unfold parStep;rw [if_neg (fun h=>h.2.2.elim hneg (fun h=>hless (by rw [hb2,Int.toNat_natCast,HSK.out,HSQ.out] at h;exact h)))]))
           have ht2:decide ((mk.blocks.length:Int) < (mq.blocks.length:Int))=false:=by simpa using hless
           subst hb2
           go_upto_region 22 with (fail)
           refine wp_region_grow 41 (fun kz=>match kz with | 12=>.const (.bool true) | _=>.plain) (by kernel_rfl) (by kernel_rfl) ?_ (fun ν => ?_)
           ·(intro k;(try dsimp only);split <;> first | exact True.intro | (intro u w1 w2 hu hb;exact hu.below hb))
           simp only [List.take_succ_cons,List.take_zero,List.drop_succ_cons,List.drop_zero]
           iterate 12 (refine Grow.val (v := ?_) rfl rfl (fun wg hbg hdg => ?_) ?_;rotate_left;(focus ((obtain ⟨p0,p1,p2,p3,p4, -, -, -⟩:=HCI.out.below hbg hbl0;obtain ⟨q0,q1,q2,q3,q4, -, -, -⟩:=HCK.out.below hbg hbl0;obtain ⟨-,r1, -, -, -, -, -, -⟩:=HCQ.out.below hbg hbl0;simp only [Nat.zero_add] at p0 p1 p2 p3 p4 q0 q1 q2 q3 q4 r1);clear hbg hdg;first | (go_simp;done) | (go_simp;with_reducible rfl)));simp only [Act.put,List.setIfInBounds_toArray,List.set_cons_zero,List.set_cons_succ])
           refine Grow.call (f := ?_) (args := ?_) rfl (fun wg => ?_) (fun wg hbg hdg => ?_) ?_
           rotate_left 2
           focus (first | (go_simp;done) | (go_simp;refine And.intro ?_ ?_ <;> with_reducible rfl) | (go_simp;with_reducible rfl))
           focus exact Calls.mono (HCALL.out wg hbg) (fun e w2 ⟨he,hb2⟩=>⟨_,he,rfl,hb2⟩)
           simp only [Act.put,Known.val,List.setIfInBounds_toArray,List.set_cons_zero,List.set_cons_succ]
           iterate 28 (refine Grow.val (v := ?_) rfl rfl (fun wg hbg hdg => ?_) ?_;rotate_left;(focus ((obtain ⟨p0,p1,p2,p3,p4, -, -, -⟩:=HCI.out.below hbg hbl0;obtain ⟨q0,q1,q2,q3,q4, -, -, -⟩:=HCK.out.below hbg hbl0;obtain ⟨-,r1, -, -, -, -, -, -⟩:=HCQ.out.below hbg hbl0;simp only [Nat.zero_add] at p0 p1 p2 p3 p4 q0 q1 q2 q3 q4 r1);clear hbg hdg;first | (go_simp;done) | (go_simp;with_reducible rfl)));simp only [Act.put,List.setIfInBounds_toArray,List.set_cons_zero,List.set_cons_succ])
           intro wg hb hf hap
           clear hap
           replace HRR:=hd (HRR.out.later hb)
           clear hf
           go_wp2
           go_roundw
           case rel=>exact ⟨k+1,hkt,by go_num,by rw [HNX.out, <-HM.out];exact HOL.out.off OLoop.nice (Off.of_below HRR.out Foot.none) (fun _ _ h=>h),HOF.out.trans (Off.of_below HRR.out _)⟩
           case measure=>simp [intOf];omega
      ·obtain rfl:nh=k:=by omega
       have HNS:Hid (OLoops wr S (.slice (some ⟨ga,0,none⟩) nh c) (parL f (i+1))):=hd (by
        have h9:=HOL.out
        rw [HBS.out] at h9
        have h8:(List.range nh).foldl (parStep (loops0 f) i) (-1)=parentN (loops0 f) i:=by unfold parentN;rw [HL0.out]
        rw [h8,parL_next HL.out] at h9
        exact h9)
       clear hbr
       go_wp2
       go_roundw
       case rel=>exact ⟨i+1,hit,by go_num,HNS.out,HOF.out⟩
       case measure=>simp [intOf];omega
    ·obtain rfl:nh=i:=by omega
     have HLE:Hid ((loopsF f).length=nh):=hd (by rw [loopsF_len,HN9.out])
     have HLA:Hid (OLoops wr S (.slice a nh c) (loopsF f)):=hd (by
      have h9:=HOL.out
      rw [HN9.out,parL_all] at h9
      rw [HN9.out]
      exact h9)
     have HWE:Hid (Below w.heap.size w wr):=hd (HW9.out.trans (HOF.out.below HW9.out.size (fun k _ hk=>by have h8:=HSBS.out k hk;have h7:=HW3.out.size;omega)))
     go_wp2
     go_ret
     exact ⟨a,c,S,by rw [HLE.out];rfl,by rw [HLE.out];exact HLA.out,fun k hk=>by have h8:=HSBS.out k hk;have h7:=HW3.out.size;omega,HWE.out⟩
end Go.Proofs.YtgmhnepmkaonaaaGreat
