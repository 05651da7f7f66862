/- Part 23. -/
import Derived.Laws.EntriesVeiled
import Derived.Test.YtcmflfkpeodicaaGreatIRA19
import Derived.Test.YtcmflfkpeodicaaGreatIRA22
namespace Go.Proofs.YtcmflfkpeodicaaGreat
set_option maxHeartbeats 25600000
set_option linter.all false
section
open Go.RowKit
set_option maxRecDepth 100000 in
theorem aB9 {w:World} {v:Value} {f:FuncD} (hv:gG w v f) (hf:gM f=true):Calls Tryz.prog 182 #[v] w (NewR f v w):=by
 have HTO:=h! (fun (b:Nat) (x:BlockD) (h:f.blocks[b]? = some x)=>mV hf h)
 obtain ⟨hn1,hn2⟩:=gV hf
 obtain ⟨ap,cp,ab,cb,rfl,hp,ha,hc,hB⟩:=hv.form
 obtain ⟨a2,c2,bb,bo,hbe,hbc,hbm,hbl,hba,hbx⟩:=eW hB
 cases hbe
 obtain ⟨np,hnp⟩ : ∃ np,np=f.params.length:=⟨_,rfl⟩
 obtain ⟨nb,hnb⟩ : ∃ nb,nb=f.blocks.length:=⟨_,rfl⟩
 rw [<-hnp]
 rw [<-hnb] at hbc hba hbl hn1 hn2 ⊢
 obtain ⟨rfl,hbw⟩:=hba hn1
 have HNP:=h! hnp
 have HNB:=h! hnb
 have HBX:=h! hbx
 have hn0:(0:Int) <= (nb:Int):=by omega
 clear hp ha hc hB hv hbx hnp hnb hba hf
 generalize f.arrays=ar at *
 generalize f.cells=ce at *
 have hmk:=run_make_row' (P:=Tryz.prog) 26 22 (.slice none 0 0) 24 Tryz.underlying26 uV rfl .i64 .i64 nb (by omega) (by omega)
 go_enter Tryz.func182,Tryz.ntmps182
 go_upto_region 1 with (fail)
 have hA_:=(Below.refl w.heap.size w).alloc (aF _) (.cells #[.slice ap np cp,.int .i64 ar,.int .i64 ce,.slice (some ⟨bb,bo,none⟩) nb cb] 25)
 have HW:=h! hA_
 clear hA_
 have B1:=h! (Box.new w #[.slice ap np cp,.int .i64 ar,.int .i64 ce,.slice (some ⟨bb,bo,none⟩) nb cb] 25)
 generalize w.alloc (.cells #[.slice ap np cp,.int .i64 ar,.int .i64 ce,.slice (some ⟨bb,bo,none⟩) nb cb] 25)=wv at *
 obtain ⟨lB1,cB1,fB1⟩:=B1.out
 have hwv:w.heap.size < wv.heap.size:=lB1
 refine Four.wp_region_grow (XF:=(fun _=>Foot.none)) (I:=(fun _=>True)) 13 (fun ν kz=>match kz with | 4=>.made wv.heap.size (fun b=>.slice (some ⟨b,0,none⟩) nb nb) (madeCells #[.slice none 0 0] nb) | 5=>.made wv.heap.size (fun b=>.slice (some ⟨b,0,none⟩) 1 1) #[.int .i64 (-1)] | 9=>.holds (fun u w'=>New 3 wv w' u (List.replicate nb (-1))) | 10=>.holds (GrB wv nb (.slice ap np cp) (.int .i64 ar) (.int .i64 ce) (.slice (some ⟨bb,bo,none⟩) nb cb)) | 11=>.holds (GrP wv nb (.slice ap np cp) (.int .i64 ar) (.int .i64 ce) (.slice (some ⟨bb,bo,none⟩) nb cb)) | 12=>.made wv.heap.size (fun b=>.pointer (some ⟨b,0,none⟩)) #[.pointer none] | _=>.plain) (by kernel_rfl) (by kernel_rfl) ?_ ?_ (fun _ _ h=>h.elim) (fun _ _ _ _=>trivial) trivial ?_ (fun ν => ?_)
 ·(intro ν k;(try dsimp only);split <;> first | exact True.intro | (intro u w1 w2 hu hb;exact hu.later (hb.below (Nat.le_refl _) (fun _ _ ⟨_,_,h⟩=>h.elim))))
 ·(intro ν ν' k h;first | rfl | ((try dsimp only);split <;> first | rfl))
 ·(intro ν j B mk A h;(try dsimp only at h);split at h <;> first | (cases h;exact Nat.le_refl _) | cases h)
 simp only [aK,aR,aM,aT]
 iterate 4 (refine Four.Grow.val (v := ?_) rfl rfl (fun wg hbg hdg => ?_) ?_;rotate_left;(focus ((obtain ⟨lg0,cg0,fg0⟩:=B1.out.off hbg.off (fun ⟨_,h⟩=>h.elim));clear hbg hdg;first | (go_simp;done) | (go_simp;with_reducible rfl)));simp only [Act.put,aA,aC,aD])
 iterate 2 (refine Four.Grow.made (T := ?_) rfl rfl (fun wg hbg hdg => ?_) ?_;rotate_left;(focus ((obtain ⟨lg0,cg0,fg0⟩:=B1.out.off hbg.off (fun ⟨_,h⟩=>h.elim));clear hbg hdg;first | (go_simp;done) | (go_simp;with_reducible rfl)));simp only [Act.put,Known.val,aA,aC,aD])
 iterate 3 (refine Four.Grow.val (v := ?_) rfl rfl (fun wg hbg hdg => ?_) ?_;rotate_left;(focus ((obtain ⟨lg0,cg0,fg0⟩:=B1.out.off hbg.off (fun ⟨_,h⟩=>h.elim));clear hbg hdg;first | (go_simp;done) | (go_simp;with_reducible rfl)));simp only [Act.put,aA,aC,aD])
 refine Four.Grow.call (f := ?_) (args := ?_) rfl (fun wg => ?_) (fun wg hbg hdg => ?_) ?_
 rotate_left 2
 focus (first | (go_simp;done) | (go_simp;refine And.intro ?_ ?_ <;> with_reducible rfl) | (go_simp;with_reducible rfl))
 focus ((obtain ⟨bq,hq,hqB,hX⟩:=hdg 5 (by kernel_rfl));rw [hq];exact (pA (x := -1) (n:=nb) (oK hX ⟨by decide,by decide⟩) (by omega)).mono (fun e w2 ⟨u,he,hu,hb2⟩=>⟨u,he,hu.from hbg.1.size,hb2⟩))
 simp only [Act.put,Known.val,aA,aC,aD]
 refine Four.Grow.gives rfl (fun wg hbg hdg => ?_) ?_
 focus ((obtain ⟨bp,e4,h4B,h4X⟩:=hdg 4 (by kernel_rfl));(have h9:New 3 wv wg (ν 9) (List.replicate nb (-1)):=hdg 9 (by kernel_rfl));(obtain ⟨g,hcl,hg⟩:=h9.cells (by simp;omega));(obtain ⟨cap,e9, -, -, -, -⟩:=hcl.form);rw [aV] at e9;rw [e9] at hcl;clear h9 hbg hdg;simp only [e4,e9];refine ⟨_,wg, ?_,⟨bp,g,cap,rfl,h4X,h4B,hcl,hg,tK h4X hcl (by omega) (by simp;omega)⟩,⟨Off.refl _ _,fun h=>h⟩⟩;clear h4X hcl;(first | (go_simp;done) | (go_simp;with_reducible rfl)))
 simp only [Act.put,Known.val,aA,aC,aD]
 refine Four.Grow.gives rfl (fun wg hbg hdg => ?_) ?_
 focus ((have h10:GrB wv nb (.slice ap np cp) (.int .i64 ar) (.int .i64 ce) (.slice (some ⟨bb,bo,none⟩) nb cb) (ν 10) wg:=hdg 10 (by kernel_rfl));(obtain ⟨bp,g,cap,e10,k1,k2,k3,k4,k5⟩:=h10.ex);clear h10 hdg;simp only [e10];refine ⟨.pointer (some ⟨wg.heap.size,0,none⟩),wg.alloc (.cells #[.slice ap np cp,.int .i64 ar,.int .i64 ce,.slice (some ⟨bb,bo,none⟩) nb cb,.slice (some ⟨bp,0,none⟩) nb nb,.slice none 0 0,.slice (some ⟨g,0,none⟩) nb cap] 146), ?_,⟨wg.heap.size,bp,g,cap,rfl,Box.new _ _ _,k1.alloc _,k2,k3.later ((Below.refl _ _).alloc (aF _) _),k4,k5,k1.lt,k3.lt⟩,⟨Off.alloc _ _ _,fun h=>h⟩⟩;clear k1 k3 hbg;(first | (go_simp;done) | (go_simp;with_reducible rfl)))
 simp only [Act.put,Known.val,aA,aC,aD]
 refine Four.Grow.made (T := ?_) rfl rfl (fun wg hbg hdg => ?_) ?_
 rotate_left
 focus ((obtain ⟨lg0,cg0,fg0⟩:=B1.out.off hbg.off (fun ⟨_,h⟩=>h.elim));clear hbg hdg;first | (go_simp;done) | (go_simp;with_reducible rfl))
 simp only [Act.put,Known.val,aA,aC,aD]
 intro wg hb hf hap
 obtain ⟨bBP,hνBP,hBBP,hXBP⟩:=hf 4 (by omega)
 have nBPB1:bBP ≠ w.heap.size:=fun e=>by have:=lB1;omega
 have nB1BP:w.heap.size ≠ bBP:=fun e=>nBPB1 e.symm
 obtain ⟨bBQ,hνBQ,hBBQ,hXBQ⟩:=hf 5 (by omega)
 have nBQB1:bBQ ≠ w.heap.size:=fun e=>by have:=lB1;omega
 have nB1BQ:w.heap.size ≠ bBQ:=fun e=>nBQB1 e.symm
 obtain ⟨bGV,hνGV,hBGV,hXGV⟩:=hf 12 (by omega)
 have nGVB1:bGV ≠ w.heap.size:=fun e=>by have:=lB1;omega
 have nB1GV:w.heap.size ≠ bGV:=fun e=>nGVB1 e.symm
 have nBPBQ:bBP ≠ bBQ:=fun e=>hap 4 5 (by omega) (by omega) (by omega) rfl rfl (by rw [hνBP,hνBQ,e])
 have nBPGV:bBP ≠ bGV:=fun e=>hap 4 12 (by omega) (by omega) (by omega) rfl rfl (by rw [hνBP,hνGV,e])
 have nBQBP:bBQ ≠ bBP:=fun e=>hap 5 4 (by omega) (by omega) (by omega) rfl rfl (by rw [hνBQ,hνBP,e])
 have nBQGV:bBQ ≠ bGV:=fun e=>hap 5 12 (by omega) (by omega) (by omega) rfl rfl (by rw [hνBQ,hνGV,e])
 have nGVBP:bGV ≠ bBP:=fun e=>hap 12 4 (by omega) (by omega) (by omega) rfl rfl (by rw [hνGV,hνBP,e])
 have nGVBQ:bGV ≠ bBQ:=fun e=>hap 12 5 (by omega) (by omega) (by omega) rfl rfl (by rw [hνGV,hνBQ,e])
 simp only [hνBP,hνBQ,hνGV]
 clear hνBP hνBQ hνGV
 clear hap
 have gBP:=aJ HW.out.size hBBP
 clear hBBP
 have gBQ:=aJ HW.out.size hBBQ
 clear hBBQ
 have gGV:=aJ HW.out.size hBGV
 clear hBGV
 clear lB1 cB1 fB1
 replace B1:=h! (B1.out.off hb.1 (fun ⟨_,h⟩=>h.elim))
 replace HW:=h! (HW.out.trans (hb.1.below HW.out.size (fun _ _ ⟨_,h⟩=>h.elim)))
 have BP:=h! hXBP
 clear hXBP
 have BQ:=h! hXBQ
 clear hXBQ
 have GV:=h! hXGV
 clear hXGV
 obtain ⟨lB1,cB1,fB1⟩:=B1.out
 obtain ⟨lBP,cBP,fBP⟩:=BP.out
 obtain ⟨lBQ,cBQ,fBQ⟩:=BQ.out
 obtain ⟨lGV,cGV,fGV⟩:=GV.out
 simp only [bH,Nat.reduceAdd]
 have hS:GrP wv nb (.slice ap np cp) (.int .i64 ar) (.int .i64 ce) (.slice (some ⟨bb,bo,none⟩) nb cb) (ν 11) wg:=hf 11 (by omega)
 clear hf hmk
 clear lBP cBP fBP BP
 clear lBQ cBQ fBQ BQ
 obtain ⟨bg,bp,lg,lcap,e11,kG,kP,hbp,kL,hlg,hpl,hpg,hgl⟩:=hS.ex
 have nGVbg:bGV ≠ bg:=GV.out.ne kG 1 (by simp)
 have nbgGV:bg ≠ bGV:=Ne.symm nGVbg
 have nPGV:bp ≠ bGV:=kP.ne GV.out 0 (by rw [aEK hn1];simp)
 have nLGV:lg ≠ bGV:=kL.ne GV.out (by simp;omega) (u:=.pointer none) rfl (by simp)
 have nB1bg:w.heap.size ≠ bg:=fun e=>by omega
 have nB1bp:w.heap.size ≠ bp:=fun e=>by omega
 have nB1lg:w.heap.size ≠ lg:=fun e=>by omega
 have BG:=h! kG
 have HPL:=h! (kL.other (p:=⟨bGV,0,none⟩) (.pointer (some ⟨bg,0,none⟩)) nLGV)
 have HRW:Hid (Bag _ w.heap.size [w.heap.size,bg,bGV,lg] bp 3 _ (jV f 0 0)):=h! (by
  rw [tJ, <-HNB.out]
  exact (Bag.empty (base:=w.heap.size) (bs:=[w.heap.size,bg,bGV,lg]) (T:=3) kP).other (p:=⟨bGV,0,none⟩) (.pointer (some ⟨bg,0,none⟩)) (by simp) nPGV)
 simp only [e11]
 have HG0:Hid (w.heap.size < bg/\w.heap.size < bp/\w.heap.size < lg/\w.heap.size < bGV/\bp < bg/\lg < bg):=h! (by omega)
 generalize ν 9=v9 at *
 generalize ν 10=v10 at *
 clear e11 hS kG kP kL hbp hlg hpg hgl hwv
 obtain ⟨lB1,cB1,fB1⟩:=B1.out
 obtain ⟨lGV,cGV,fGV⟩:=GV.out
 obtain ⟨lBG,cBG,fBG⟩:=BG.out
 go_upto_region 2 with (fail)
 clear lB1 cB1 fB1 lGV cGV fGV lBG cBG fBG
 have hO_:=(Only.set wg (bGV) 0 (.pointer (some ⟨bg,0,none⟩)))
 replace B1:=h! (B1.out.only hO_ (by first | assumption | (simp;done) | omega))
 replace BG:=h! (BG.out.only hO_ (by first | assumption | (simp;done) | omega))
 replace HW:=h! (hO_.2.2 HW.out (by first | assumption | omega | (have:=HW.out.size;omega) | (simp;done) | (simp;omega)))
 replace GV:=h! (Box.to (A':=#[(.pointer (some ⟨bg,0,none⟩))]) (GV.out.set 0 (.pointer (some ⟨bg,0,none⟩))) (by first | rfl | simp))
 clear hO_
 generalize (wg.setCell ⟨bGV,0,none⟩ (.pointer (some ⟨bg,0,none⟩)))=w2 at *
 obtain ⟨lB1,cB1,fB1⟩:=B1.out
 obtain ⟨lGV,cGV,fGV⟩:=GV.out
 obtain ⟨lBG,cBG,fBG⟩:=BG.out
 clear gGV gBP gBQ
 go_wp2_with fail
 go_loopw [27] (fun i wr => ∃ (j:Nat) (vs:List Value),j <= nb/\i = .int .i64 j/\Bag wr w.heap.size [w.heap.size,bg,bGV,lg] bp 3 vs (jV f j 0)/\Cells wr (.slice (some ⟨lg,0,none⟩) nb lcap) lg (List.replicate nb (-1))/\Below w.heap.size w wr/\Box wr w.heap.size #[.slice ap np cp,.int .i64 ar,.int .i64 ce,.slice (some ⟨bb,bo,none⟩) nb cb]/\Box wr bGV #[.pointer (some ⟨bg,0,none⟩)]/\Box wr bg #[.slice ap np cp,.int .i64 ar,.int .i64 ce,.slice (some ⟨bb,bo,none⟩) nb cb,.slice (some ⟨bp,0,none⟩) nb nb,.slice none 0 0,.slice (some ⟨lg,0,none⟩) nb lcap]) (fun i _=>nb - (intOf i).toNat)
 case atStart=>exact ⟨0,_,aP _,rfl,HRW.out,HPL.out,HW.out,B1.out,GV.out,BG.out⟩
 obtain ⟨j,vs,hj,rfl,hR,hL,hW,h1,h2,h3⟩:=hrel
 clear lB1 cB1 fB1 lGV cGV fGV lBG cBG fBG
 replace HRW:=h! hR
 replace HPL:=h! hL
 replace HW:=h! hW
 replace B1:=h! h1
 replace GV:=h! h2
 replace BG:=h! h3
 clear hR hL hW h1 h2 h3
 generalize wr=w3 at *
 obtain ⟨lB1,cB1,fB1⟩:=B1.out
 obtain ⟨lGV,cGV,fGV⟩:=GV.out
 obtain ⟨lBG,cBG,fBG⟩:=BG.out
 by_cases hlt:j < nb
 ·obtain ⟨x,hjx⟩ : ∃ x,f.blocks[j]? = some x:=⟨_,aB (by have:=HNB.out;omega)⟩
  obtain ⟨api,aii,ati,cpi,cii,cti,hC⟩:=HBX.out j x hjx
  have HTL:=h! hC.to
  obtain ⟨ta,tc,tb0,to0,hte,htc,htm,hta,htx⟩:=hC.to.parts
  cases hte
  obtain ⟨k0,k1,k2,k3,k4,k5,q1,q2,q3,q4,q5,q6⟩:=hC.below HW.out hbw
  clear q1 q2 q3 q4 q5 q6 hC
  obtain ⟨tl,htl⟩ : ∃ tl,tl=x.term.to.length:=⟨_,rfl⟩
  rw [<-htl] at k4 htc
  have HTA:=h! hta
  have HTX:=h! htx
  have HTN:=h! htl
  have HTB:=h! (oN hjx)
  have HTR:=h! (HTO.out j x hjx)
  clear hta htx htl hjx
  replace HRW:=h! ((HRW.out.more (aF _)).alloc (.cells #[.slice api x.phis.length cpi,.slice aii x.code.length cii,.int .i64 x.term.op,.int .i64 x.term.val,.slice ati tl cti,.int .i64 x.term.n] 50))
  have HG1:Hid (bp < w3.heap.size/\w.heap.size < w3.heap.size/\bg < w3.heap.size/\bGV < w3.heap.size):=h! ⟨by have:=HRW.out.box.lt;have:=HG0.out;omega,by omega,by omega,by omega⟩
  go_upto_region 5 with (fail)
  have nB5B1:w3.heap.size ≠ w.heap.size:=fun e=>by have:=lB1;omega
  have nB1B5:w.heap.size ≠ w3.heap.size:=fun e=>nB5B1 e.symm
  have nB5GV:w3.heap.size ≠ bGV:=fun e=>by have:=lGV;omega
  have nGVB5:bGV ≠ w3.heap.size:=fun e=>nB5GV e.symm
  have nB5BG:w3.heap.size ≠ bg:=fun e=>by have:=lBG;omega
  have nBGB5:bg ≠ w3.heap.size:=fun e=>nB5BG e.symm
  clear lB1 cB1 fB1 lGV cGV fGV lBG cBG fBG
  have hA_:=(Below.refl w3.heap.size w3).alloc (aF _) (.cells #[.slice api x.phis.length cpi,.slice aii x.code.length cii,.int .i64 x.term.op,.int .i64 x.term.val,.slice ati tl cti,.int .i64 x.term.n] 50)
  replace B1:=h! (B1.out.later hA_)
  replace GV:=h! (GV.out.later hA_)
  replace BG:=h! (BG.out.later hA_)
  replace HPL:=h! (HPL.out.later hA_)
  replace HW:=h! (HW.out.trans (hA_.mono HW.out.size))
  clear hA_
  have B5:=h! (Box.new w3 #[.slice api x.phis.length cpi,.slice aii x.code.length cii,.int .i64 x.term.op,.int .i64 x.term.val,.slice ati tl cti,.int .i64 x.term.n] 50)
  generalize w3.alloc (.cells #[.slice api x.phis.length cpi,.slice aii x.code.length cii,.int .i64 x.term.op,.int .i64 x.term.val,.slice ati tl cti,.int .i64 x.term.n] 50)=w4 at *
  obtain ⟨lB1,cB1,fB1⟩:=B1.out
  obtain ⟨lGV,cGV,fGV⟩:=GV.out
  obtain ⟨lBG,cBG,fBG⟩:=BG.out
  obtain ⟨lB5,cB5,fB5⟩:=B5.out
  clear k0 k1 k2 k3 k4 k5
  have HBB:Hid (w3.heap.size ≠ bp/\w.heap.size ≠ bp/\bGV ≠ bp/\bg ≠ bp):=h! (by have:=HG1.out;have:=HG0.out;omega)
  go_wp2_with fail
  go_loopw [36] (fun i wr => ∃ (k:Nat) (vs:List Value),k <= tl/\i = .int .i64 k/\Bag wr w.heap.size [w3.heap.size,w.heap.size,bg,bGV,lg] bp 3 vs (jV f j k)/\Cells wr (.slice (some ⟨lg,0,none⟩) nb lcap) lg (List.replicate nb (-1))/\Below w.heap.size w wr/\Box wr w.heap.size #[.slice ap np cp,.int .i64 ar,.int .i64 ce,.slice (some ⟨bb,bo,none⟩) nb cb]/\Box wr bGV #[.pointer (some ⟨bg,0,none⟩)]/\Box wr bg #[.slice ap np cp,.int .i64 ar,.int .i64 ce,.slice (some ⟨bb,bo,none⟩) nb cb,.slice (some ⟨bp,0,none⟩) nb nb,.slice none 0 0,.slice (some ⟨lg,0,none⟩) nb lcap]/\Box wr w3.heap.size #[.slice api x.phis.length cpi,.slice aii x.code.length cii,.int .i64 x.term.op,.int .i64 x.term.val,.slice ati tl cti,.int .i64 x.term.n]) (fun i _=>tl - (intOf i).toNat)
  case atStart=>exact ⟨0,_,aP _,rfl,HRW.out,HPL.out,HW.out,B1.out,GV.out,BG.out,B5.out⟩
  obtain ⟨k,vs,hk,rfl,hR,hL,hW,h1,h2,h3,h5⟩:=hrel
  clear lB1 cB1 fB1 lGV cGV fGV lBG cBG fBG lB5 cB5 fB5
  replace HRW:=h! hR
  replace HPL:=h! hL
  replace HW:=h! hW
  replace B1:=h! h1
  replace GV:=h! h2
  replace BG:=h! h3
  replace B5:=h! h5
  clear hR hL hW h1 h2 h3 h5
  generalize wr=w5 at *
  obtain ⟨lB1,cB1,fB1⟩:=B1.out
  obtain ⟨lGV,cGV,fGV⟩:=GV.out
  obtain ⟨lBG,cBG,fBG⟩:=BG.out
  obtain ⟨lB5,cB5,fB5⟩:=B5.out
  by_cases hltk:k < tl
  ·obtain ⟨rfl,hbt⟩:=HTA.out (by have:=HTN.out;omega)
   obtain ⟨t,ht⟩ : ∃ t,t=x.term.to.getD k 0:=⟨_,rfl⟩
   have htm:x.term.to[k]? = some t:=by rw [ht];exact eX _ _ (by have:=HTN.out;omega)
   have htr:=HTR.out t (aG htm)
   obtain ⟨tn,rfl⟩ : ∃ tn:Nat,t=(tn:Int):=⟨t.toNat,by omega⟩
   have htn:tn < nb:=by have:=HNB.out;omega
   have hct:w5.cell? ⟨tb0,to0+k,none⟩=some (.int .i64 tn):=by
    rw [HW.out.cell (p:=⟨tb0,to0+k,none⟩) hbt,HTX.out k (by have:=HTN.out;omega), <-ht]
   have HTK:Hid ((toB f j)[k]? = some tn):=h! (by rw [HTB.out,aU,htm];simp)
   have HIT:Hid (Ints w5 (.slice (some ⟨tb0,to0,none⟩) k cti) (x.term.to.take k)):=h! ((HTL.out.below HW.out).take (by have:=HTN.out;omega))
   obtain ⟨cc,hcc⟩ : ∃ cc,cc=(x.term.to.take k).contains (tn:Int):=⟨_,rfl⟩
   have HCC:Hid (((toB f j).take k).contains tn=cc):=h! (by
    rw [hcc,mT (fun y hy=>by have:=HTR.out y (dO hy);omega),HTB.out,List.map_take])
   have HCT:=h! (rP (x:=(tn:Int)) HIT.out)
   rw [<-hcc] at HCT
   clear ht htm htr hcc
   go_wp2_with fail
   refine HCT.out.mono ?_
   rintro e w6 ⟨rfl,rfl⟩
   clear hct
   have HB9:Hid (bp < w5.heap.size/\w3.heap.size < w5.heap.size/\w.heap.size < w5.heap.size/\bg < w5.heap.size/\bGV < w5.heap.size/\lg < w5.heap.size):=h! ⟨HRW.out.box.lt,B5.out.lt,B1.out.lt,BG.out.lt,GV.out.lt,HPL.out.lt⟩
   cases cc
   ·obtain ⟨v,hvt,hcv,hOv⟩:=HRW.out.at (jZ (f:=f) (i:=j) (k:=k) (show tn < f.blocks.length by have:=HNB.out;omega))
    clear hcv
    obtain ⟨n,hn⟩ : ∃ n,n=(natI (fO f j k tn)).length:=⟨_,rfl⟩
    have hnle:n <= j+1:=by rw [hn,fW];exact nX f j k tn
    rw [<-hn] at hOv
    have HN:=h! hn
    have HO:=h! hOv
    obtain ⟨va,vc,rfl⟩:=hOv.form
    obtain ⟨X,hX⟩ : ∃ X,X=((Value.slice va n vc).ownBlock).toList:=⟨_,rfl⟩
    have hXo:∀ k,(Value.slice va n vc).ownBlock=some k ↔ k ∈ X:=fun k=>by rw [hX];simp [eq_comm]
    have HXO:=h! hXo
    have xLG:lg ∉ X:=fun hm=>HO.out.free _ ((hXo lg).2 hm) (by simp)
    obtain ⟨XF,hX14,hXQ⟩:=uT 14 (fun q=>(Value.slice va n vc).ownBlock=some q)
    have HX:=h! (And.intro hX14 hXQ)
    have HXA:Hid (∀ q,Four.All XF q -> (Value.slice va n vc).ownBlock=some q):=h! (fun q ⟨i,h⟩=>by obtain rfl:=HX.out.2 i q h;exact (HX.out.1 q).1 h)
    have xW:∀ i q,XF i q -> q < w5.heap.size:=fun i q h=>(HO.out.lt (HXA.out q ⟨i,h⟩)).1
    have xI:∀ w w' : World,True -> Below w.heap.size w w' -> True:=fun _ _ _ _=>trivial
    have xI0:True:=trivial
    have xBASE:∀ q,q < w5.heap.size -> Four.All XF q -> w.heap.size <= q:=fun q _ h=>(HO.out.lt (HXA.out q h)).2
    have xALL:∀ y ∈ [bp,w3.heap.size,w.heap.size,bg,bGV,lg], ¬ Four.All XF y:=fun y hy h=>HO.out.free _ (HXA.out y h) hy
    have xBR:¬ Four.All XF bp:=xALL _ (by simp)
    have xB5:¬ Four.All XF w3.heap.size:=xALL _ (by simp)
    have xB1:¬ Four.All XF w.heap.size:=xALL _ (by simp)
    have xBG:¬ Four.All XF bg:=xALL _ (by simp)
    have xGV:¬ Four.All XF bGV:=xALL _ (by simp)
    clear hX hXo xALL hn hOv hX14 hXQ
    clear lB1 cB1 fB1 lGV cGV fGV lBG cBG fBG lB5 cB5 fB5
    have BR:=h! HRW.out.box
    obtain ⟨lB1,cB1,fB1⟩:=B1.out
    obtain ⟨lGV,cGV,fGV⟩:=GV.out
    obtain ⟨lBG,cBG,fBG⟩:=BG.out
    obtain ⟨lB5,cB5,fB5⟩:=B5.out
    obtain ⟨lBR,cBR,fBR⟩:=BR.out
    go_upto_region 9 with (fail)
    refine Four.wp_region_grow (XF:=XF) (I:=(fun _=>True)) 16 (fun ν kz=>match kz with | 13=>.made w5.heap.size (fun b=>.slice (some ⟨b,0,none⟩) 1 1) #[.int .i64 j] | 14=>.holds (fun u w'=>AppS w5 w.heap.size [bp,w3.heap.size,w.heap.size,bg,bGV,lg] 3 1 (.slice va n vc) (n+1) ((natI (fO f j k tn)).map (.int .i64) ++ [.int .i64 j]) u w') | _=>.plain) (by kernel_rfl) (by kernel_rfl) ?_ ?_ xW xI xI0 ?_ (fun ν => ?_)
    ·(intro ν k;(try dsimp only);split <;> first | exact True.intro | (intro u w1 w2 hu hb;exact hu.later (hb.below (Nat.le_refl _) (fun q _ ⟨j,hj,h⟩=>absurd (HX.out.2 j q h) hj))))
    ·(intro ν ν' k h;first | rfl | ((try dsimp only);split <;> first | rfl))
    ·(intro ν j B mk A h;(try dsimp only at h);split at h <;> first | (cases h;exact Nat.le_refl _) | cases h)
    simp only [aK,aR,aM,aT]
    iterate 13 (refine Four.Grow.val (v := ?_) rfl rfl (fun wg hbg hdg => ?_) ?_;rotate_left;(focus ((obtain ⟨lg0,cg0,fg0⟩:=B1.out.off hbg.off xB1);(obtain ⟨lg1,cg1,fg1⟩:=GV.out.off hbg.off xGV);(obtain ⟨lg2,cg2,fg2⟩:=BG.out.off hbg.off xBG);(obtain ⟨lg3,cg3,fg3⟩:=B5.out.off hbg.off xB5);(obtain ⟨lg4,cg4,fg4⟩:=BR.out.off hbg.off xBR);clear hbg hdg;first | (go_simp;done) | (go_simp;with_reducible rfl)));simp only [Act.put,aA,aC,aD])
    refine Four.Grow.made (T := ?_) rfl rfl (fun wg hbg hdg => ?_) ?_
    rotate_left
    focus ((obtain ⟨lg0,cg0,fg0⟩:=B1.out.off hbg.off xB1);(obtain ⟨lg1,cg1,fg1⟩:=GV.out.off hbg.off xGV);(obtain ⟨lg2,cg2,fg2⟩:=BG.out.off hbg.off xBG);(obtain ⟨lg3,cg3,fg3⟩:=B5.out.off hbg.off xB5);(obtain ⟨lg4,cg4,fg4⟩:=BR.out.off hbg.off xBR);clear hbg hdg;first | (go_simp;done) | (go_simp;with_reducible rfl))
    simp only [Act.put,Known.val,aA,aC,aD]
    refine Four.Grow.gives rfl (fun wg hbg hdg => ?_) ?_
    focus ((obtain ⟨bn,e6,hbn,hB6⟩:=hdg 13 (by kernel_rfl);have hb0:Below w5.heap.size w5 wg:=hbg.1.below (aF _) (fun q _ ⟨j,hj,_,h⟩=>absurd (HX.out.2 j q h) hj);have hs0:=hb0.size;simp only [e6];exact pT (.tmp 60) (.tmp 62) 22 3 rfl mA rfl rfl (HO.out.later hb0) (Row.of_box (n:=1) (size:=1) hB6 rfl (by omega)) (by simp [Value.oneCell']) (by unfold maxLen;omega) (by omega) (aJ HW.out.size hs0) (fun y hy=>aL (by have h9:=HG1.out;have h8:=HB9.out;simp at hy;omega) hs0) hs0 (fun q hq=>(HX.out.1 q).2 hq)))
    simp only [Act.put,Known.val,aA,aC,aD]
    refine Four.Grow.val (v := ?_) rfl rfl (fun wg hbg hdg => ?_) ?_
    rotate_left
    focus ((obtain ⟨lg0,cg0,fg0⟩:=B1.out.off hbg.off xB1);(obtain ⟨lg1,cg1,fg1⟩:=GV.out.off hbg.off xGV);(obtain ⟨lg2,cg2,fg2⟩:=BG.out.off hbg.off xBG);(obtain ⟨lg3,cg3,fg3⟩:=B5.out.off hbg.off xB5);(obtain ⟨lg4,cg4,fg4⟩:=BR.out.off hbg.off xBR);clear hbg hdg;first | (go_simp;done) | (go_simp;with_reducible rfl))
    simp only [Act.put,aA,aC,aD]
    intro wg hb hf hap
    obtain ⟨bBN,hνBN,hBBN,hXBN⟩:=hf 13 (by omega)
    have nBNB1:bBN ≠ w.heap.size:=fun e=>by have:=lB1;omega
    have nB1BN:w.heap.size ≠ bBN:=fun e=>nBNB1 e.symm
    have nBNGV:bBN ≠ bGV:=fun e=>by have:=lGV;omega
    have nGVBN:bGV ≠ bBN:=fun e=>nBNGV e.symm
    have nBNBG:bBN ≠ bg:=fun e=>by have:=lBG;omega
    have nBGBN:bg ≠ bBN:=fun e=>nBNBG e.symm
    have nBNB5:bBN ≠ w3.heap.size:=fun e=>by have:=lB5;omega
    have nB5BN:w3.heap.size ≠ bBN:=fun e=>nBNB5 e.symm
    have nBNBR:bBN ≠ bp:=fun e=>by have:=lBR;omega
    have nBRBN:bp ≠ bBN:=fun e=>nBNBR e.symm
    simp only [hνBN]
    clear hνBN
    clear hap
    have gBN:=aJ HW.out.size hBBN
    clear hBBN
    clear lB1 cB1 fB1 lGV cGV fGV lBG cBG fBG lB5 cB5 fB5 lBR cBR fBR
    replace B1:=h! (B1.out.off hb.1 xB1)
    replace GV:=h! (GV.out.off hb.1 xGV)
    replace BG:=h! (BG.out.off hb.1 xBG)
    replace B5:=h! (B5.out.off hb.1 xB5)
    replace BR:=h! (BR.out.off hb.1 xBR)
    replace HW:=h! (HW.out.trans (hb.1.below HW.out.size xBASE))
    have BN:=h! hXBN
    clear hXBN
    obtain ⟨lB1,cB1,fB1⟩:=B1.out
    obtain ⟨lGV,cGV,fGV⟩:=GV.out
    obtain ⟨lBG,cBG,fBG⟩:=BG.out
    obtain ⟨lB5,cB5,fB5⟩:=B5.out
    obtain ⟨lBR,cBR,fBR⟩:=BR.out
    obtain ⟨lBN,cBN,fBN⟩:=BN.out
    simp only [bH,Nat.reduceAdd]
    have hS:AppS w5 w.heap.size [bp,w3.heap.size,w.heap.size,bg,bGV,lg] 3 1 (.slice va n vc) (n+1) ((natI (fO f j k tn)).map (.int .i64) ++ [.int .i64 j]) (ν 14) wg:=hf 14 (by omega)
    clear hf
    obtain ⟨hO7,hown7⟩:=hS
    obtain ⟨oa7,oc7,e7⟩:=hO7.form
    rw [e7] at hO7 hown7
    simp only [e7]
    have hbT:Turn X w5 wg:=⟨hb.1.os,hb.1.tape,hb.1.output,hb.1.size,fun k hk hn=>hb.1.block k hk (fun h=>hn ((HXO.out k).1 (HXA.out k h)))⟩
    have hK7:Kept [] (.slice va n vc) (.slice oa7 (n+1) oc7) w5 wg:=⟨hbT.os,hbT.tape,hbT.output,hbT.size,fun k hk _ hn=>hbT.block k hk (fun hm=>hn ((HXO.out k).2 hm)),hown7⟩
    have HR7:Hid (Bag (wg.setCell ⟨bp,tn,none⟩ (.slice oa7 (n+1) oc7)) w.heap.size [w3.heap.size,w.heap.size,bg,bGV,lg] bp 3 (vs.set tn (.slice oa7 (n+1) oc7)) (jV f j (k+1))):=h! (by
     rw [<-zV HTK.out HCC.out (by have:=HNB.out;omega)]
     refine HRW.out.put hvt (jZ (by have:=HNB.out;omega)) ?_ hK7
     have e9:natI (fO f j k tn ++ [j])=natI (fO f j k tn) ++ [(j:Int)]:=by simp [natI]
     rw [e9,aQ,bF, <-HN.out]
     exact hO7)
    have HP7:=h! ((HPL.out.turn hbT xLG).other (p:=⟨bp,tn,none⟩) (.slice oa7 (n+1) oc7) (Ne.symm hpl))
    have HW7:=h! (HW.out.setCell (p:=⟨bp,tn,none⟩) (by have:=HG0.out;simp only;omega) (.slice oa7 (n+1) oc7))
    have H17:=h! (B1.out.other (p:=⟨bp,tn,none⟩) (.slice oa7 (n+1) oc7) HBB.out.2.1)
    have HV7:=h! (GV.out.other (p:=⟨bp,tn,none⟩) (.slice oa7 (n+1) oc7) HBB.out.2.2.1)
    have HG7:=h! (BG.out.other (p:=⟨bp,tn,none⟩) (.slice oa7 (n+1) oc7) HBB.out.2.2.2)
    have H57:=h! (B5.out.other (p:=⟨bp,tn,none⟩) (.slice oa7 (n+1) oc7) HBB.out.1)
    clear hO7 hown7 hK7 hb e7 BN
    go_wp2
    go_roundw
    case rel=>exact ⟨k+1,_,hltk,by go_num,HR7.out,HP7.out,HW7.out,H17.out,HV7.out,HG7.out,H57.out⟩
    simp [intOf];omega
   go_wp2
   go_roundw
   case rel=>exact ⟨k+1,vs,hltk,by go_num,by rw [zW HTK.out HCC.out];exact HRW.out,HPL.out,HW.out,B1.out,GV.out,BG.out,B5.out⟩
   simp [intOf];omega
  obtain rfl:k=tl:=by omega
  have HNX:Hid (jV f j k=jV f (j+1) 0):=h! (by rw [<-xB,HTB.out,bD, <-HTN.out])
  go_wp2
  go_roundw
  case rel=>exact ⟨j+1,vs,hlt,by go_num,by rw [<-HNX.out];exact HRW.out.less (by simp),HPL.out,HW.out,B1.out,GV.out,BG.out⟩
  simp [intOf];omega
 have hjn:j=nb:=by omega
 replace HRW:Hid (Bag w3 w.heap.size [w3.heap.size,w.heap.size,bg,bGV,lg] bp 3 vs (gB f)):=h! (by have:=HRW.out.more (aF _);unfold gB;rw [<-HNB.out, <-hjn];exact this)
 have hmkb:=run_make_row' (P:=Tryz.prog) 97 4 (.bool false) 1 Tryz.underlying97 qO rfl .i64 .i64 nb (by omega) (by omega)
 have HG1:Hid (bp < w3.heap.size/\w.heap.size < w3.heap.size/\bg < w3.heap.size/\bGV < w3.heap.size/\lg < w3.heap.size):=h! ⟨by have:=HRW.out.box.lt;omega,by omega,by omega,by omega,HPL.out.lt⟩
 clear hj hjn
 go_upto_region 15 with (fail)
 have nFLB1:w3.heap.size ≠ w.heap.size:=fun e=>by have:=lB1;omega
 have nB1FL:w.heap.size ≠ w3.heap.size:=fun e=>nFLB1 e.symm
 have nFLGV:w3.heap.size ≠ bGV:=fun e=>by have:=lGV;omega
 have nGVFL:bGV ≠ w3.heap.size:=fun e=>nFLGV e.symm
 have nFLBG:w3.heap.size ≠ bg:=fun e=>by have:=lBG;omega
 have nBGFL:bg ≠ w3.heap.size:=fun e=>nFLBG e.symm
 have nBBB1:w3.heap.size+1 ≠ w.heap.size:=fun e=>by have:=lB1;omega
 have nB1BB:w.heap.size ≠ w3.heap.size+1:=fun e=>nBBB1 e.symm
 have nBBGV:w3.heap.size+1 ≠ bGV:=fun e=>by have:=lGV;omega
 have nGVBB:bGV ≠ w3.heap.size+1:=fun e=>nBBGV e.symm
 have nBBBG:w3.heap.size+1 ≠ bg:=fun e=>by have:=lBG;omega
 have nBGBB:bg ≠ w3.heap.size+1:=fun e=>nBBBG e.symm
 have nBBFL:w3.heap.size+1 ≠ w3.heap.size:=by omega
 have nFLBB:w3.heap.size ≠ w3.heap.size+1:=by omega
 have nBVB1:w3.heap.size+1+1 ≠ w.heap.size:=fun e=>by have:=lB1;omega
 have nB1BV:w.heap.size ≠ w3.heap.size+1+1:=fun e=>nBVB1 e.symm
 have nBVGV:w3.heap.size+1+1 ≠ bGV:=fun e=>by have:=lGV;omega
 have nGVBV:bGV ≠ w3.heap.size+1+1:=fun e=>nBVGV e.symm
 have nBVBG:w3.heap.size+1+1 ≠ bg:=fun e=>by have:=lBG;omega
 have nBGBV:bg ≠ w3.heap.size+1+1:=fun e=>nBVBG e.symm
 have nBVFL:w3.heap.size+1+1 ≠ w3.heap.size:=by omega
 have nFLBV:w3.heap.size ≠ w3.heap.size+1+1:=by omega
 have nBVBB:w3.heap.size+1+1 ≠ w3.heap.size+1:=by omega
 have nBBBV:w3.heap.size+1 ≠ w3.heap.size+1+1:=by omega
 clear lB1 cB1 fB1 lGV cGV fGV lBG cBG fBG
 have hA_:=(Below.refl w3.heap.size w3).alloc (aF _) (.cells (madeCells #[.bool false] nb) 4)
 replace B1:=h! (B1.out.later hA_)
 replace GV:=h! (GV.out.later hA_)
 replace BG:=h! (BG.out.later hA_)
 replace HRW:=h! (HRW.out.later hA_)
 replace HPL:=h! (HPL.out.later hA_)
 replace HW:=h! (HW.out.trans (hA_.mono HW.out.size))
 clear hA_
 have FL:=h! (Box.new w3 (madeCells #[.bool false] nb) 4)
 have hz0_:(w3.alloc (.cells (madeCells #[.bool false] nb) 4)).heap.size=w3.heap.size+1:=World.size_alloc _ _
 generalize w3.alloc (.cells (madeCells #[.bool false] nb) 4)=w4x0 at *
 have hA_:=(Below.refl w4x0.heap.size w4x0).alloc (aF _) (.cells #[.slice (some ⟨w3.heap.size,0,none⟩) nb nb] 97)
 replace B1:=h! (B1.out.later hA_)
 replace GV:=h! (GV.out.later hA_)
 replace BG:=h! (BG.out.later hA_)
 replace FL:=h! (FL.out.later hA_)
 replace HRW:=h! (HRW.out.later hA_)
 replace HPL:=h! (HPL.out.later hA_)
 replace HW:=h! (HW.out.trans (hA_.mono HW.out.size))
 clear hA_
 have BB:=h! (Box.new w4x0 #[.slice (some ⟨w3.heap.size,0,none⟩) nb nb] 97)
 rw [hz0_] at BB
 have hz1_:(w4x0.alloc (.cells #[.slice (some ⟨w3.heap.size,0,none⟩) nb nb] 97)).heap.size=w3.heap.size+1+1:=by rw [World.size_alloc,hz0_]
 clear hz0_
 generalize w4x0.alloc (.cells #[.slice (some ⟨w3.heap.size,0,none⟩) nb nb] 97)=w4x1 at *
 have hA_:=(Below.refl w4x1.heap.size w4x1).alloc (aF _) (.cells #[.func (.func 212) #[] #[.pointer (some ⟨w3.heap.size+1,0,none⟩),.pointer (some ⟨w.heap.size,0,none⟩),.pointer (some ⟨w3.heap.size+1+1,0,none⟩),.pointer (some ⟨bGV,0,none⟩)]] 209)
 replace B1:=h! (B1.out.later hA_)
 replace GV:=h! (GV.out.later hA_)
 replace BG:=h! (BG.out.later hA_)
 replace FL:=h! (FL.out.later hA_)
 replace BB:=h! (BB.out.later hA_)
 replace HRW:=h! (HRW.out.later hA_)
 replace HPL:=h! (HPL.out.later hA_)
 replace HW:=h! (HW.out.trans (hA_.mono HW.out.size))
 clear hA_
 have BV:=h! (Box.new w4x1 #[.func (.func 212) #[] #[.pointer (some ⟨w3.heap.size+1,0,none⟩),.pointer (some ⟨w.heap.size,0,none⟩),.pointer (some ⟨w3.heap.size+1+1,0,none⟩),.pointer (some ⟨bGV,0,none⟩)]] 209)
 rw [hz1_] at BV
 clear hz1_
 generalize w4x1.alloc (.cells #[.func (.func 212) #[] #[.pointer (some ⟨w3.heap.size+1,0,none⟩),.pointer (some ⟨w.heap.size,0,none⟩),.pointer (some ⟨w3.heap.size+1+1,0,none⟩),.pointer (some ⟨bGV,0,none⟩)]] 209)=w4 at *
 obtain ⟨lB1,cB1,fB1⟩:=B1.out
 obtain ⟨lGV,cGV,fGV⟩:=GV.out
 obtain ⟨lBG,cBG,fBG⟩:=BG.out
 obtain ⟨lFL,cFL,fFL⟩:=FL.out
 obtain ⟨lBB,cBB,fBB⟩:=BB.out
 obtain ⟨lBV,cBV,fBV⟩:=BV.out
 clear hmkb
 have hN0:(⟨w3.heap.size+1,w3.heap.size,w.heap.size,w3.heap.size+1+1,bGV,bg⟩ : VisN).list.Nodup:=by
  simp only [VisN.list,eI,bM,dS,or_false,not_or,not_false_eq_true,List.nodup_nil,and_true]
  have:=HG1.out
  omega
 have HVI:Hid (VisI ⟨w3.heap.size+1,w3.heap.size,w.heap.size,w3.heap.size+1+1,bGV,bg⟩ w.heap.size nb #[.slice ap np cp,.int .i64 ar,.int .i64 ce,.slice (some ⟨bb,bo,none⟩) nb cb] (.slice (some ⟨bp,0,none⟩) nb nb) (.slice (some ⟨lg,0,none⟩) nb lcap) w4 (List.replicate nb false) [] (.slice none 0 0)) :=
  h! ⟨BB.out,by have:=FL.out;rwa [lT] at this,B1.out,BV.out,GV.out,by simpa using BG.out,Own.nil,by simp,hN0⟩
 clear hN0
 have HVC:Hid (Calls Tryz.prog 212 #[.int .i64 0,.pointer (some ⟨w3.heap.size+1,0,none⟩),.pointer (some ⟨w.heap.size,0,none⟩),.pointer (some ⟨w3.heap.size+1+1,0,none⟩),.pointer (some ⟨bGV,0,none⟩)] w4
   (VisR f ⟨w3.heap.size+1,w3.heap.size,w.heap.size,w3.heap.size+1+1,bGV,bg⟩ w.heap.size nb #[.slice ap np cp,.int .i64 ar,.int .i64 ce,.slice (some ⟨bb,bo,none⟩) nb cb] (.slice (some ⟨bp,0,none⟩) nb nb) (.slice (some ⟨lg,0,none⟩) nb lcap) w w4 (List.replicate nb false) [] (.slice none 0 0) 0)):=h!
  (aB3 HNB.out hbc hbm hbw hn2 HBX.out (fun j x h t ht=>by rw [HNB.out];exact HTO.out j x h t ht) (by intro b hb;simp [VisN.list] at hb;have:=HG1.out;have:=HG0.out;omega) nb w4 (List.replicate nb false) [] (.slice none 0 0) 0 (by rw [List.count_replicate_self];exact aF _) (by rw [List.count_replicate_self];simp only [cD];omega) HVI.out HW.out (by rw [List.getElem?_replicate,if_pos (by omega)]))
 have HW4:=h! (⟨by have:=HG1.out;omega,by have:=HG1.out;omega,HPL.out.lt,HRW.out.box.lt,HW.out.size⟩ : w3.heap.size < w4.heap.size/\bg < w4.heap.size/\lg < w4.heap.size/\bp < w4.heap.size/\w.heap.size <= w4.heap.size)
 have eg1:∀ (args:Array Value) (w:World),(callFunc 212 args).run Tryz.prog w = .ok (.enter 212 args) w:=rO
 go_upto_region 16 with (go_at_fn 212;refine HVC.out.mono ?_;rintro e w5 ⟨rfl,s',d',ov',hst,hvi,hK,hW5⟩;have HST:=h! hst;have HVI5:=h! hvi;have HK5:=h! hK;have HW5:=h! hW5;clear hst hvi hK hW5)
 obtain ⟨O,hO⟩ : ∃ O,O=(d' ++ [0]).reverse:=⟨_,rfl⟩
 have hOr:O.reverse=d' ++ [0]:=by rw [hO,List.reverse_reverse]
 have HIO:Hid (gL f O):=h! ⟨s',by
  rw [hOr, <-HNB.out]
  exact .go (by rw [List.getElem?_replicate,if_pos (by omega)]) HST.out (.nil _ _)⟩
 obtain ⟨hnd, -,hOb,hO0, -⟩:=HIO.out.facts
 obtain ⟨m,hm⟩ : ∃ m,m=O.length:=⟨_,rfl⟩
 have hmd:(d' ++ [0]).length=m:=by rw [<-hOr,List.length_reverse, <-hm]
 have HM:=h! hm
 have hm1:1 <= m:=by rw [hm];exact Nat.pos_of_ne_zero fun e=>by rw [cJ e] at hO0;cases hO0
 have hmn:m <= nb:=by rw [hm,HNB.out];exact HIO.out.le
 have HND:=h! hnd
 have HOB:=h! hOb
 have HOR:=h! hOr
 have hown:=HVI5.out.own
 rw [hmd] at hown
 obtain ⟨oa,oc,rfl⟩:=hown.form
 have hnew:∀ k,(Value.slice oa m oc).ownBlock=some k -> w4.heap.size <= k:=fun k hk=>(HK5.out.own k hk).resolve_left (by simp [Value.ownBlock])
 have HNEW:=h! hnew
 have HOW:Hid (Own w5 w.heap.size [w3.heap.size+1,w3.heap.size,w.heap.size,w3.heap.size+1+1,bGV,bg] 3 1 (.slice oa m oc) (natI (d' ++ [0])).length ((natI (d' ++ [0])).map (.int .i64))):=h! (by
  rw [fW,hmd]
  have e9:(natI (d' ++ [0])).map (Value.int .i64)=(d' ++ [0]).map fun x:Nat=>Value.int .i64 x:=by unfold natI;rw [dP];rfl
  rw [e9];exact hown)
 have HMD:Hid ((natI (d' ++ [0])).length=m):=h! (by rw [fW,hmd])
 have HREV:Hid (∀ w',Own w' w.heap.size [w3.heap.size+1,w3.heap.size,w.heap.size,w3.heap.size+1+1,bGV,bg] 3 1 (.slice oa m oc) (natI (d' ++ [0])).length ((natI (d' ++ [0])).reverse.map (.int .i64)) -> Ints w' (.slice oa m oc) (natI O)):=h! (fun w' h=>by
  have e9:(natI (d' ++ [0])).reverse=natI O:=by unfold natI;rw [<-List.map_reverse,hO]
  rw [e9] at h
  have h2:=h.row
  rw [fW,hmd,hm, <-fW O] at h2
  have h3:=Ints.of_own h2 (by rw [fW];omega) (zX fun b hb=>by have:=hOb b hb;have:=HNB.out;omega)
  rw [fW, <-hm] at h3
  rw [hm];rw [hm] at h3;exact h3)
 clear hO hOr hnd hOb hO0 hm hmd hown hnew
 clear lB1 cB1 fB1 lGV cGV fGV lBG cBG fBG lFL cFL fFL lBB cBB fBB lBV cBV fBV
 replace GV:=h! HVI5.out.gvar
 replace BG:Hid (Box w5 bg #[.slice ap np cp,.int .i64 ar,.int .i64 ce,.slice (some ⟨bb,bo,none⟩) nb cb,(.slice (some ⟨bp,0,none⟩) nb nb),.slice oa m oc,(.slice (some ⟨lg,0,none⟩) nb lcap)]):=h! (by simpa using HVI5.out.graph)
 obtain ⟨lGV,cGV,fGV⟩:=GV.out
 obtain ⟨lBG,cBG,fBG⟩:=BG.out
 clear B1 FL BB BV
 go_upto_region 17 with (go_at_call 213;refine (xA HOW.out (by rw [HMD.out];omega)).mono ?_;rintro e w6 ⟨rfl,hO6,hK6⟩;have HO6:=h! hO6;have HK6:=h! hK6;clear hO6 hK6)
 have HT6:Hid (Turn [w3.heap.size,bg] w4 w6):=h! ⟨HK6.out.os.trans HK5.out.os,HK6.out.tape.trans HK5.out.tape,HK6.out.output.trans HK5.out.output,aJ HK5.out.size HK6.out.size,fun k hk hm=>(HK6.out.block k (aL hk HK5.out.size) (by simp) (fun e=>by have:=HNEW.out k e;omega)).trans (HK5.out.block k hk hm (by simp [Value.ownBlock]))⟩
 replace HRW:=h! (HRW.out.turn HT6.out (by have:=HG1.out;have:=HG0.out;simp only [bM,dS,or_false];omega) (by intro y hy;simp at hy ⊢;rcases hy with rfl | rfl <;> simp))
 replace HPL:=h! (HPL.out.turn HT6.out (by have:=HG1.out;have:=HG0.out;simp only [bM,dS,or_false];omega))
 clear lGV cGV fGV lBG cBG fBG
 replace GV:=h! (GV.out.kept HK6.out (by simp) (fun e=>HOW.out.free _ e (by simp)))
 replace BG:=h! (BG.out.kept HK6.out (by simp) (fun e=>HOW.out.free _ e (by simp)))
 have HI:=h! (HREV.out w6 HO6.out)
 replace HW:=h! (HK6.out.below HW5.out (by simp) (fun k hk=>by have:=HNEW.out k hk;have:=HW4.out;omega))
 clear HREV HO6 HK6 HK5 HT6 HOW HVI5 HVI HVC HST HW5
 obtain ⟨lGV,cGV,fGV⟩:=GV.out
 obtain ⟨lBG,cBG,fBG⟩:=BG.out
 go_wp2_with fail
 go_loopw [84] (fun i wr => ∃ q:Nat,q <= m/\i = .int .i64 q/\Cells wr (.slice (some ⟨lg,0,none⟩) nb lcap) lg (gX nb O q)/\Ints wr (.slice oa m oc) (natI O)/\Bag wr w.heap.size [w3.heap.size,w.heap.size,bg,bGV,lg] bp 3 vs (gB f)/\Below w.heap.size w wr/\Box wr bGV #[.pointer (some ⟨bg,0,none⟩)]/\Box wr bg #[.slice ap np cp,.int .i64 ar,.int .i64 ce,.slice (some ⟨bb,bo,none⟩) nb cb,(.slice (some ⟨bp,0,none⟩) nb nb),.slice oa m oc,(.slice (some ⟨lg,0,none⟩) nb lcap)]) (fun i _=>m - (intOf i).toNat)
 case atStart=>exact ⟨0,aP _,rfl,by rw [rQ];exact HPL.out,HI.out,HRW.out,HW.out,GV.out,BG.out⟩
 obtain ⟨q,hq,rfl,hL,hI,hR,hW,h2,h3⟩:=hrel
 clear lGV cGV fGV lBG cBG fBG
 replace HPL:=h! hL
 replace HI:=h! hI
 replace HRW:=h! hR
 replace HW:=h! hW
 replace GV:=h! h2
 replace BG:=h! h3
 clear hL hI hR hW h2 h3
 obtain ⟨lGV,cGV,fGV⟩:=GV.out
 obtain ⟨lBG,cBG,fBG⟩:=BG.out
 by_cases hltq:q < m
 ·obtain ⟨ia,ic,ib,io,hie,hic,him,hia,hix⟩:=HI.out.parts
  injection hie with e1 e2 e3
  subst e1 e3
  obtain ⟨rfl,hib⟩:=hia (by omega)
  obtain ⟨bn,hbn⟩ : ∃ bn,O[q]? = some bn:=⟨_,aB (by have:=HM.out;omega)⟩
  have hci:=hix q (by omega)
  rw [show (natI O).getD q 0=(bn:Int) by unfold natI;rw [aH,aU,hbn];rfl] at hci
  have hbl:bn < nb:=by have:=HOB.out bn (aG hbn);have:=HNB.out;omega
  have HQ:=h! hbn
  obtain ⟨y,hy⟩ : ∃ y,(gX nb O q)[bn]? = some y:=⟨_,aB (by rw [fL];exact hbl)⟩
  obtain ⟨lc2, -, -, -,hcl,hfl⟩:=HPL.out.form
  have hpc:=hcl bn y hy
  have hpf:=hfl bn
  clear hia hix hbn hy hcl hfl e2 hic
  go_wp2
  go_roundw
  case rel =>
   exact ⟨q+1,hltq,by go_num,by rw [<-xC HND.out HQ.out hbl];exact HPL.out.set (by rw [fL];exact hbl),HI.out.other _ (fun g hg e=>by have:=HNEW.out g hg;have:=HW4.out;simp only at e;omega),
    HRW.out.other _ (by simp) hpl,HW.out.setCell (p:=⟨lg,bn,none⟩) (by have:=HG0.out;simp only;omega) _,GV.out.other _ (Ne.symm nLGV),BG.out.other _ (by have:=HG0.out;simp only;omega)⟩
  simp [intOf];omega
 have hqm:q=m:=by omega
 have HLS:=h! (HRW.out.lists (by unfold gB;rw [gR];have:=HNB.out;omega) (uU (by have:=HNB.out;omega)))
 have HPI:=h! (HPL.out.ints (by rw [fL];omega) (zY _ (by have:=HM.out;omega)))
 have HLN:Hid ((gB f).length=nb):=h! (by unfold gB;rw [gR,HNB.out])
 rw [HLN.out] at HLS
 rw [hqm,HM.out,HNB.out] at HPI
 go_wp2
 go_ret
 exact ⟨bg,O,rfl,HIO.out,⟨_,_,_,_,_,_,_,rfl,BG.out,by have:=HG0.out;omega,HLS.out,HI.out,by have:=HPI.out;rw [<-HNB.out] at this ⊢;exact this⟩,HW.out⟩
end
section
open Go.RowKit
theorem eS {f:FuncD} (h:eL f=0):gM f=true/\idsF f=true:=by
 unfold eL at h
 split at h
 ·rename_i h2;simpa using h2
 cases h
def fG (w0 W:World):Prop:=Below w0.heap.size w0 W
theorem fG.later {w0 W W' : World} (h:fG w0 W) (hb:Below W.heap.size W W'):fG w0 W':=Below.trans h (hb.mono (Below.size h))
theorem mU.later {f:FuncD} {v:Value} {w0 W W' : World} {bg:Nat} {O:List Nat} (h:mU f v w0 W bg O) (hb:Below W.heap.size W W'):mU f v w0 W' bg O:=by
 obtain ⟨a0,a1,a2,a3,pv,ov,lv,e,h1,h2,h3,h4,h5⟩:=h
 exact ⟨a0,a1,a2,a3,pv,ov,lv,e,h1.later hb,h2,h3.below hb,h4.below hb,h5.below hb⟩
theorem mU.from {f:FuncD} {v:Value} {w0 w1 W:World} {bg:Nat} {O:List Nat} (h:mU f v w1 W bg O) (hs:w0.heap.size <= w1.heap.size):mU f v w0 W bg O:=by
 obtain ⟨a0,a1,a2,a3,pv,ov,lv,e,h1,h2,h3,h4,h5⟩:=h
 exact ⟨a0,a1,a2,a3,pv,ov,lv,e,h1,by omega,h3,h4,h5⟩
def aGS (f:FuncD) (v:Value) (w:World) (e:Ending) (w' : World):Prop :=
 Below w.heap.size w w' /\ ((eL f ≠ 0/\e = .returned (.tuple #[.pointer none,.int .i64 (eL f)])) \/ (eL f=0 /\ ∃ bg O,e = .returned (.tuple #[.pointer (some ⟨bg,0,none⟩),.int .i64 0])/\gL f O/\mU f v w w' bg O))
theorem aAH {w:World} {v:Value} {f:FuncD} (hv:gG w v f):Calls Tryz.prog 124 #[v] w (aGS f v w):=by
 have HV:=h! hv
 obtain ⟨ap,cp,ab,cb,rfl,hp,ha,hc,hB⟩:=hv.form
 clear hp ha hc hB hv
 go_enter Tryz.func124,Tryz.ntmps124
 go_upto_region 1 with (fail)
 have hA_:=(Below.refl w.heap.size w).alloc (aF _) (.cells #[.slice ap f.params.length cp,.int .i64 f.arrays,.int .i64 f.cells,.slice ab f.blocks.length cb] 25)
 have HW:=h! hA_
 clear hA_
 have B1:=h! (Box.new w #[.slice ap f.params.length cp,.int .i64 f.arrays,.int .i64 f.cells,.slice ab f.blocks.length cb] 25)
 generalize w.alloc (.cells #[.slice ap f.params.length cp,.int .i64 f.arrays,.int .i64 f.cells,.slice ab f.blocks.length cb] 25)=wv at *
 obtain ⟨lB1,cB1,fB1⟩:=B1.out
 go_wp2_with fail
 refine (aEO (HV.out.below HW.out)).mono ?_
 rintro e w2 ⟨rfl,hb⟩
 clear lB1 cB1 fB1
 replace B1:=h! (B1.out.later hb)
 replace HW:=h! (HW.out.trans (hb.mono HW.out.size))
 clear hb
 obtain ⟨lB1,cB1,fB1⟩:=B1.out
 cases hc0:(eL f == 0)
 ·have hc1:(eL f != 0)=true:=by simp [bne,hc0]
  have HC0:=h! hc0
  go_wp2
  go_ret2
  exact ⟨HW.out,.inl ⟨by simpa using HC0.out,rfl⟩⟩
 have hc1:(eL f != 0)=false:=by simp [bne,hc0]
 have HC1:Hid (eL f=0):=h! (by simpa using hc0)
 go_wp2_with fail
 refine (aB9 (HV.out.below HW.out) (eS HC1.out).1).mono ?_
 rintro e w3 ⟨bg,O,rfl,hO,hG,hb3⟩
 have HO:=h! hO
 have HG:=h! (hG.from HW.out.size)
 clear hO hG
 clear lB1 cB1 fB1
 replace B1:=h! (B1.out.later hb3)
 replace HW:=h! (HW.out.trans (hb3.mono HW.out.size))
 clear hb3
 obtain ⟨lB1,cB1,fB1⟩:=B1.out
 go_wp2
 go_ret2
 exact ⟨HW.out,.inr ⟨HC1.out,bg,O,rfl,HO.out,HG.out⟩⟩
def nV (w:World) (v:Value) (xs:List Bool):Prop:=Row w v xs.length 1 (xs.map .bool)
theorem nV.below {w w' : World} {v:Value} {xs:List Bool} (h:nV w v xs) (hb:Below w.heap.size w w'):nV w' v xs:=Row.below h hb
theorem nV.nil {w:World}:nV w (.slice none 0 0) []:=Row.nil
theorem nV.form {w:World} {v:Value} {xs:List Bool} (h:nV w v xs):∃ a c,v = .slice a xs.length c:=by
 obtain ⟨a,c,hv,_⟩:=h.is
 exact ⟨a,c,hv⟩
theorem nV.parts {w:World} {v:Value} {xs:List Bool} (h:nV w v xs) :
  ∃ a cap b off,v = .slice a xs.length cap/\xs.length <= cap/\cap <= 9223372036854775807/\(0 < xs.length -> a=some ⟨b,off,none⟩/\b < w.heap.size) /\
   ∀ (j:Nat) (x:Bool),xs[j]? = some x -> w.cell? ⟨b,off+j,none⟩=some (.bool x):=by
 obtain ⟨a,cap,b,off,hv,h1,h2,h3,h4⟩:=Row.parts h
 exact ⟨a,cap,b,off,hv,h1,by unfold maxLen at h2;omega,by simpa using h3,fun j x hj=>h4 j _ (by simp [hj])⟩
def mW (f:FuncD) (gone:Int) (S:List Bool):Prop:=S.length=f.blocks.length /\ ∀ b,S[b]? = some true ↔ Way (toB f) gone b
end
end Go.Proofs.YtcmflfkpeodicaaGreat
