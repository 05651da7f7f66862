/- Part 24. -/
import Derived.Laws.EntriesVeiled
import Derived.Test.YtagabiidbbhhmaaGreatER19
import Derived.Test.YtagabiidbbhhmaaGreatER23
namespace Go.Proofs.YtagabiidbbhhmaaGreat
set_option maxHeartbeats 25600000
set_option linter.all false
section
open Go.RowKit
set_option maxRecDepth 100000 in
theorem vP {w:World} {v:Value} {f:FuncD} (hv:fU w v f) (hf:gW f=true):Calls Tryz.prog 72 #[v] w (NewR f v w):=by
 have gd:=h! (fun (b:Nat) (x:BlockD) (h:f.blocks[b]? = some x)=>mF hf h)
 obtain ⟨et,gf⟩:=iE hf
 obtain ⟨ap,cp,ab,cb,rfl,hp,ha,hc,hB⟩:=hv.form
 obtain ⟨a2,c2,bb,bo,hM,fG,hD,dc,fb,fB⟩:=eY hB
 cases hM
 obtain ⟨np,fh⟩ : ∃ np,np=f.params.length:=⟨_,rfl⟩
 obtain ⟨nb,ev⟩ : ∃ nb,nb=f.blocks.length:=⟨_,rfl⟩
 rw [<-fh]
 rw [<-ev] at fG fb dc et gf ⊢
 obtain ⟨rfl,gx⟩:=fb et
 have HNP:=h! fh
 have ao:=h! ev
 have gg:=h! fB
 have hn0:(0:Int) <= (nb:Int):=by omega
 clear hp ha hc hB hv fB fh ev fb hf
 generalize f.arrays=ar at *
 generalize f.cells=ce at *
 have iy:=run_make_row' (P:=Tryz.prog) 42 22 (.slice none 0 0) 24 Tryz.underlying42 vK rfl .i64 .i64 nb (by omega) (by omega)
 go_enter Tryz.func72,Tryz.ntmps72
 go_upto_region 1 with (fail)
 have ac:=(Below.refl w.heap.size w).alloc (aB _) (.cells #[.slice ap np cp,.int .i64 ar,.int .i64 ce,.slice (some ⟨bb,bo,none⟩) nb cb] 25)
 have HW:=h! ac
 clear ac
 have B1:=h! (Box.new w #[.slice ap np cp,.int .i64 ar,.int .i64 ce,.slice (some ⟨bb,bo,none⟩) nb cb] 25)
 generalize w.alloc (.cells #[.slice ap np cp,.int .i64 ar,.int .i64 ce,.slice (some ⟨bb,bo,none⟩) nb cb] 25)=wv at *
 obtain ⟨ae,an,aq⟩:=B1.out
 have ii:w.heap.size < wv.heap.size:=ae
 refine Four.wp_region_grow (XF:=(fun _=>Foot.none)) (I:=(fun _=>True)) 13 (fun ν kz=>match kz with | 4=>.made wv.heap.size (fun b=>.slice (some ⟨b,0,none⟩) nb nb) (madeCells #[.slice none 0 0] nb) | 5=>.made wv.heap.size (fun b=>.slice (some ⟨b,0,none⟩) 1 1) #[.int .i64 (-1)] | 9=>.holds (fun u w'=>New 3 wv w' u (List.replicate nb (-1))) | 10=>.holds (GrB wv nb (.slice ap np cp) (.int .i64 ar) (.int .i64 ce) (.slice (some ⟨bb,bo,none⟩) nb cb)) | 11=>.holds (GrP wv nb (.slice ap np cp) (.int .i64 ar) (.int .i64 ce) (.slice (some ⟨bb,bo,none⟩) nb cb)) | 12=>.made wv.heap.size (fun b=>.pointer (some ⟨b,0,none⟩)) #[.pointer none] | _=>.plain) (by kernel_rfl) (by kernel_rfl) ?_ ?_ (fun _ _ h=>h.elim) (fun _ _ _ _=>trivial) trivial ?_ (fun ν => ?_)
 ·(intro ν k;(try dsimp only);split <;> first | exact True.intro | (intro u w1 w2 hu hb;exact hu.later (hb.below (Nat.le_refl _) (fun _ _ ⟨_,_,h⟩=>h.elim))))
 ·(intro ν ν' k h;first | rfl | ((try dsimp only);split <;> first | rfl))
 ·(intro ν j B mk A h;(try dsimp only at h);split at h <;> first | (cases h;exact Nat.le_refl _) | cases h)
 simp only [aO,aS,aP,aU]
 iterate 4 (refine Four.Grow.val (v := ?_) rfl rfl (fun wg hbg hdg => ?_) ?_;rotate_left;(focus ((obtain ⟨lg0,cg0,fg0⟩:=B1.out.off hbg.off (fun ⟨_,h⟩=>h.elim));clear hbg hdg;first | (go_simp;done) | (go_simp;with_reducible rfl)));simp only [Act.put,aA,aD,aE])
 iterate 2 (refine Four.Grow.made (T := ?_) rfl rfl (fun wg hbg hdg => ?_) ?_;rotate_left;(focus ((obtain ⟨lg0,cg0,fg0⟩:=B1.out.off hbg.off (fun ⟨_,h⟩=>h.elim));clear hbg hdg;first | (go_simp;done) | (go_simp;with_reducible rfl)));simp only [Act.put,Known.val,aA,aD,aE])
 iterate 3 (refine Four.Grow.val (v := ?_) rfl rfl (fun wg hbg hdg => ?_) ?_;rotate_left;(focus ((obtain ⟨lg0,cg0,fg0⟩:=B1.out.off hbg.off (fun ⟨_,h⟩=>h.elim));clear hbg hdg;first | (go_simp;done) | (go_simp;with_reducible rfl)));simp only [Act.put,aA,aD,aE])
 refine Four.Grow.call (f := ?_) (args := ?_) rfl (fun wg => ?_) (fun wg hbg hdg => ?_) ?_
 rotate_left 2
 focus (first | (go_simp;done) | (go_simp;refine And.intro ?_ ?_ <;> with_reducible rfl) | (go_simp;with_reducible rfl))
 focus ((obtain ⟨bq,hq,hqB,hX⟩:=hdg 5 (by kernel_rfl));rw [hq];exact (oO (x := -1) (n:=nb) (oZ hX ⟨by decide,by decide⟩) (by omega)).mono (fun e w2 ⟨u,he,hu,hb2⟩=>⟨u,he,hu.from hbg.1.size,hb2⟩))
 simp only [Act.put,Known.val,aA,aD,aE]
 refine Four.Grow.gives rfl (fun wg hbg hdg => ?_) ?_
 focus ((obtain ⟨bp,e4,h4B,h4X⟩:=hdg 4 (by kernel_rfl));(have h9:New 3 wv wg (ν 9) (List.replicate nb (-1)):=hdg 9 (by kernel_rfl));(obtain ⟨g,hcl,hg⟩:=h9.cells (by simp;omega));(obtain ⟨cap,e9, -, -, -, -⟩:=hcl.form);rw [aR] at e9;rw [e9] at hcl;clear h9 hbg hdg;simp only [e4,e9];refine ⟨_,wg, ?_,⟨bp,g,cap,rfl,h4X,h4B,hcl,hg,uI h4X hcl (by omega) (by simp;omega)⟩,⟨Off.refl _ _,fun h=>h⟩⟩;clear h4X hcl;(first | (go_simp;done) | (go_simp;with_reducible rfl)))
 simp only [Act.put,Known.val,aA,aD,aE]
 refine Four.Grow.gives rfl (fun wg hbg hdg => ?_) ?_
 focus ((have h10:GrB wv nb (.slice ap np cp) (.int .i64 ar) (.int .i64 ce) (.slice (some ⟨bb,bo,none⟩) nb cb) (ν 10) wg:=hdg 10 (by kernel_rfl));(obtain ⟨bp,g,cap,e10,k1,k2,k3,k4,k5⟩:=h10.ex);clear h10 hdg;simp only [e10];refine ⟨.pointer (some ⟨wg.heap.size,0,none⟩),wg.alloc (.cells #[.slice ap np cp,.int .i64 ar,.int .i64 ce,.slice (some ⟨bb,bo,none⟩) nb cb,.slice (some ⟨bp,0,none⟩) nb nb,.slice none 0 0,.slice (some ⟨g,0,none⟩) nb cap] 135), ?_,⟨wg.heap.size,bp,g,cap,rfl,Box.new _ _ _,k1.alloc _,k2,k3.later ((Below.refl _ _).alloc (aB _) _),k4,k5,k1.lt,k3.lt⟩,⟨Off.alloc _ _ _,fun h=>h⟩⟩;clear k1 k3 hbg;(first | (go_simp;done) | (go_simp;with_reducible rfl)))
 simp only [Act.put,Known.val,aA,aD,aE]
 refine Four.Grow.made (T := ?_) rfl rfl (fun wg hbg hdg => ?_) ?_
 rotate_left
 focus ((obtain ⟨lg0,cg0,fg0⟩:=B1.out.off hbg.off (fun ⟨_,h⟩=>h.elim));clear hbg hdg;first | (go_simp;done) | (go_simp;with_reducible rfl))
 simp only [Act.put,Known.val,aA,aD,aE]
 intro wg hb hf br
 obtain ⟨bz,aw,cl,de⟩:=hf 4 (by omega)
 have cB:bz ≠ w.heap.size:=fun e=>by have:=ae;omega
 have nB1BP:w.heap.size ≠ bz:=fun e=>cB e.symm
 obtain ⟨ca,ax,dx,dr⟩:=hf 5 (by omega)
 have dj:ca ≠ w.heap.size:=fun e=>by have:=ae;omega
 have nB1BQ:w.heap.size ≠ ca:=fun e=>dj e.symm
 obtain ⟨aa,az,dm,cj⟩:=hf 12 (by omega)
 have dy:aa ≠ w.heap.size:=fun e=>by have:=ae;omega
 have nB1GV:w.heap.size ≠ aa:=fun e=>dy e.symm
 have nBPBQ:bz ≠ ca:=fun e=>br 4 5 (by omega) (by omega) (by omega) rfl rfl (by rw [aw,ax,e])
 have nBPGV:bz ≠ aa:=fun e=>br 4 12 (by omega) (by omega) (by omega) rfl rfl (by rw [aw,az,e])
 have nBQBP:ca ≠ bz:=fun e=>br 5 4 (by omega) (by omega) (by omega) rfl rfl (by rw [ax,aw,e])
 have nBQGV:ca ≠ aa:=fun e=>br 5 12 (by omega) (by omega) (by omega) rfl rfl (by rw [ax,az,e])
 have nGVBP:aa ≠ bz:=fun e=>br 12 4 (by omega) (by omega) (by omega) rfl rfl (by rw [az,aw,e])
 have nGVBQ:aa ≠ ca:=fun e=>br 12 5 (by omega) (by omega) (by omega) rfl rfl (by rw [az,ax,e])
 simp only [aw,ax,az]
 clear aw ax az
 clear br
 have jc:=bE HW.out.size cl
 clear cl
 have it:=bE HW.out.size dx
 clear dx
 have jh:=bE HW.out.size dm
 clear dm
 clear ae an aq
 replace B1:=h! (B1.out.off hb.1 (fun ⟨_,h⟩=>h.elim))
 replace HW:=h! (HW.out.trans (hb.1.below HW.out.size (fun _ _ ⟨_,h⟩=>h.elim)))
 have BP:=h! de
 clear de
 have BQ:=h! dr
 clear dr
 have GV:=h! cj
 clear cj
 obtain ⟨ae,an,aq⟩:=B1.out
 obtain ⟨ig,jb,hY⟩:=BP.out
 obtain ⟨jg,hU,hV⟩:=BQ.out
 obtain ⟨af,aj,ai⟩:=GV.out
 simp only [bH,Nat.reduceAdd]
 have hS:GrP wv nb (.slice ap np cp) (.int .i64 ar) (.int .i64 ce) (.slice (some ⟨bb,bo,none⟩) nb cb) (ν 11) wg:=hf 11 (by omega)
 clear hf iy
 clear ig jb hY BP
 clear jg hU hV BQ
 obtain ⟨bg,bp,lg,am,gv,kG,kP,il,kL,ik,gn,jf,jy⟩:=hS.ex
 have cm:aa ≠ bg:=GV.out.ne kG 1 (by simp)
 have nbgGV:bg ≠ aa:=Ne.symm cm
 have ff:bp ≠ aa:=kP.ne GV.out 0 (by rw [aEF et];simp)
 have dv:lg ≠ aa:=kL.ne GV.out (by simp;omega) (u:=.pointer none) rfl (by simp)
 have nB1bg:w.heap.size ≠ bg:=fun e=>by omega
 have nB1bp:w.heap.size ≠ bp:=fun e=>by omega
 have nB1lg:w.heap.size ≠ lg:=fun e=>by omega
 have BG:=h! kG
 have ah:=h! (kL.other (p:=⟨aa,0,none⟩) (.pointer (some ⟨bg,0,none⟩)) dv)
 have ad:Hid (Bag _ w.heap.size [w.heap.size,bg,aa,lg] bp 3 _ (jY f 0 0)):=h! (by
  rw [uG, <-ao.out]
  exact (Bag.empty (base:=w.heap.size) (bs:=[w.heap.size,bg,aa,lg]) (T:=3) kP).other (p:=⟨aa,0,none⟩) (.pointer (some ⟨bg,0,none⟩)) (by simp) ff)
 simp only [gv]
 have bh:Hid (w.heap.size < bg/\w.heap.size < bp/\w.heap.size < lg/\w.heap.size < aa/\bp < bg/\lg < bg):=h! (by omega)
 generalize ν 9=v9 at *
 generalize ν 10=v10 at *
 clear gv hS kG kP kL il ik jf jy ii
 obtain ⟨ae,an,aq⟩:=B1.out
 obtain ⟨af,aj,ai⟩:=GV.out
 obtain ⟨ag,ak,al⟩:=BG.out
 go_upto_region 2 with (fail)
 clear ae an aq af aj ai ag ak al
 have eg:=(Only.set wg (aa) 0 (.pointer (some ⟨bg,0,none⟩)))
 replace B1:=h! (B1.out.only eg (by first | assumption | (simp;done) | omega))
 replace BG:=h! (BG.out.only eg (by first | assumption | (simp;done) | omega))
 replace HW:=h! (eg.2.2 HW.out (by first | assumption | omega | (have:=HW.out.size;omega) | (simp;done) | (simp;omega)))
 replace GV:=h! (Box.to (A':=#[(.pointer (some ⟨bg,0,none⟩))]) (GV.out.set 0 (.pointer (some ⟨bg,0,none⟩))) (by first | rfl | simp))
 clear eg
 generalize (wg.setCell ⟨aa,0,none⟩ (.pointer (some ⟨bg,0,none⟩)))=w2 at *
 obtain ⟨ae,an,aq⟩:=B1.out
 obtain ⟨af,aj,ai⟩:=GV.out
 obtain ⟨ag,ak,al⟩:=BG.out
 clear jh jc it
 go_wp2_with fail
 go_loopw [27] (fun i wr => ∃ (j:Nat) (vs:List Value),j <= nb/\i = .int .i64 j/\Bag wr w.heap.size [w.heap.size,bg,aa,lg] bp 3 vs (jY f j 0)/\Cells wr (.slice (some ⟨lg,0,none⟩) nb am) lg (List.replicate nb (-1))/\Below w.heap.size w wr/\Box wr w.heap.size #[.slice ap np cp,.int .i64 ar,.int .i64 ce,.slice (some ⟨bb,bo,none⟩) nb cb]/\Box wr aa #[.pointer (some ⟨bg,0,none⟩)]/\Box wr bg #[.slice ap np cp,.int .i64 ar,.int .i64 ce,.slice (some ⟨bb,bo,none⟩) nb cb,.slice (some ⟨bp,0,none⟩) nb nb,.slice none 0 0,.slice (some ⟨lg,0,none⟩) nb am]) (fun i _=>nb - (intOf i).toNat)
 case atStart=>exact ⟨0,_,aJ _,rfl,ad.out,ah.out,HW.out,B1.out,GV.out,BG.out⟩
 obtain ⟨j,vs,hj,rfl,hR,hL,hW,h1,h2,h3⟩:=hrel
 clear ae an aq af aj ai ag ak al
 replace ad:=h! hR
 replace ah:=h! hL
 replace HW:=h! hW
 replace B1:=h! h1
 replace GV:=h! h2
 replace BG:=h! h3
 clear hR hL hW h1 h2 h3
 generalize wr=w3 at *
 obtain ⟨ae,an,aq⟩:=B1.out
 obtain ⟨af,aj,ai⟩:=GV.out
 obtain ⟨ag,ak,al⟩:=BG.out
 by_cases hlt:j < nb
 ·obtain ⟨x,ed⟩ : ∃ x,f.blocks[j]? = some x:=⟨_,aC (by have:=ao.out;omega)⟩
  obtain ⟨cL,cG,cq,cw,cM,bO,hC⟩:=gg.out j x ed
  have ix:=h! hC.to
  obtain ⟨ta,tc,es,fa,jm,iq,eb,fy,gp⟩:=hC.to.parts
  cases jm
  obtain ⟨k0,k1,k2,k3,k4,k5,q1,q2,q3,q4,q5,q6⟩:=hC.below HW.out gx
  clear q1 q2 q3 q4 q5 q6 hC
  obtain ⟨tl,eo⟩ : ∃ tl,tl=x.term.to.length:=⟨_,rfl⟩
  rw [<-eo] at k4 iq
  have ja:=h! fy
  have jt:=h! gp
  have dn:=h! eo
  have fc:=h! (pK ed)
  have fF:=h! (gd.out j x ed)
  clear fy gp eo ed
  replace ad:=h! ((ad.out.more (aB _)).alloc (.cells #[.slice cL x.phis.length cw,.slice cG x.code.length cM,.int .i64 x.term.op,.int .i64 x.term.val,.slice cq tl bO,.int .i64 x.term.n] 63))
  have bm:Hid (bp < w3.heap.size/\w.heap.size < w3.heap.size/\bg < w3.heap.size/\aa < w3.heap.size):=h! ⟨by have:=ad.out.box.lt;have:=bh.out;omega,by omega,by omega,by omega⟩
  go_upto_region 5 with (fail)
  have da:w3.heap.size ≠ w.heap.size:=fun e=>by have:=ae;omega
  have nB1B5:w.heap.size ≠ w3.heap.size:=fun e=>da e.symm
  have dg:w3.heap.size ≠ aa:=fun e=>by have:=af;omega
  have nGVB5:aa ≠ w3.heap.size:=fun e=>dg e.symm
  have dp:w3.heap.size ≠ bg:=fun e=>by have:=ag;omega
  have nBGB5:bg ≠ w3.heap.size:=fun e=>dp e.symm
  clear ae an aq af aj ai ag ak al
  have ac:=(Below.refl w3.heap.size w3).alloc (aB _) (.cells #[.slice cL x.phis.length cw,.slice cG x.code.length cM,.int .i64 x.term.op,.int .i64 x.term.val,.slice cq tl bO,.int .i64 x.term.n] 63)
  replace B1:=h! (B1.out.later ac)
  replace GV:=h! (GV.out.later ac)
  replace BG:=h! (BG.out.later ac)
  replace ah:=h! (ah.out.later ac)
  replace HW:=h! (HW.out.trans (ac.mono HW.out.size))
  clear ac
  have B5:=h! (Box.new w3 #[.slice cL x.phis.length cw,.slice cG x.code.length cM,.int .i64 x.term.op,.int .i64 x.term.val,.slice cq tl bO,.int .i64 x.term.n] 63)
  generalize w3.alloc (.cells #[.slice cL x.phis.length cw,.slice cG x.code.length cM,.int .i64 x.term.op,.int .i64 x.term.val,.slice cq tl bO,.int .i64 x.term.n] 63)=w4 at *
  obtain ⟨ae,an,aq⟩:=B1.out
  obtain ⟨af,aj,ai⟩:=GV.out
  obtain ⟨ag,ak,al⟩:=BG.out
  obtain ⟨bw,cd,cf⟩:=B5.out
  clear k0 k1 k2 k3 k4 k5
  have ej:Hid (w3.heap.size ≠ bp/\w.heap.size ≠ bp/\aa ≠ bp/\bg ≠ bp):=h! (by have:=bm.out;have:=bh.out;omega)
  go_wp2_with fail
  go_loopw [36] (fun i wr => ∃ (k:Nat) (vs:List Value),k <= tl/\i = .int .i64 k/\Bag wr w.heap.size [w3.heap.size,w.heap.size,bg,aa,lg] bp 3 vs (jY f j k)/\Cells wr (.slice (some ⟨lg,0,none⟩) nb am) lg (List.replicate nb (-1))/\Below w.heap.size w wr/\Box wr w.heap.size #[.slice ap np cp,.int .i64 ar,.int .i64 ce,.slice (some ⟨bb,bo,none⟩) nb cb]/\Box wr aa #[.pointer (some ⟨bg,0,none⟩)]/\Box wr bg #[.slice ap np cp,.int .i64 ar,.int .i64 ce,.slice (some ⟨bb,bo,none⟩) nb cb,.slice (some ⟨bp,0,none⟩) nb nb,.slice none 0 0,.slice (some ⟨lg,0,none⟩) nb am]/\Box wr w3.heap.size #[.slice cL x.phis.length cw,.slice cG x.code.length cM,.int .i64 x.term.op,.int .i64 x.term.val,.slice cq tl bO,.int .i64 x.term.n]) (fun i _=>tl - (intOf i).toNat)
  case atStart=>exact ⟨0,_,aJ _,rfl,ad.out,ah.out,HW.out,B1.out,GV.out,BG.out,B5.out⟩
  obtain ⟨k,vs,hk,rfl,hR,hL,hW,h1,h2,h3,h5⟩:=hrel
  clear ae an aq af aj ai ag ak al bw cd cf
  replace ad:=h! hR
  replace ah:=h! hL
  replace HW:=h! hW
  replace B1:=h! h1
  replace GV:=h! h2
  replace BG:=h! h3
  replace B5:=h! h5
  clear hR hL hW h1 h2 h3 h5
  generalize wr=w5 at *
  obtain ⟨ae,an,aq⟩:=B1.out
  obtain ⟨af,aj,ai⟩:=GV.out
  obtain ⟨ag,ak,al⟩:=BG.out
  obtain ⟨bw,cd,cf⟩:=B5.out
  by_cases hltk:k < tl
  ·obtain ⟨rfl,ij⟩:=ja.out (by have:=dn.out;omega)
   obtain ⟨t,ht⟩ : ∃ t,t=x.term.to.getD k 0:=⟨_,rfl⟩
   have eb:x.term.to[k]? = some t:=by rw [ht];exact fK _ _ (by have:=dn.out;omega)
   have hG:=fF.out t (aG eb)
   obtain ⟨tn,rfl⟩ : ∃ tn:Nat,t=(tn:Int):=⟨t.toNat,by omega⟩
   have htn:tn < nb:=by have:=ao.out;omega
   have jd:w5.cell? ⟨es,fa+k,none⟩=some (.int .i64 tn):=by
    rw [HW.out.cell (p:=⟨es,fa+k,none⟩) ij,jt.out k (by have:=dn.out;omega), <-ht]
   have gw:Hid ((toB f j)[k]? = some tn):=h! (by rw [fc.out,aQ,eb];simp)
   have hZ:Hid (Ints w5 (.slice (some ⟨es,fa,none⟩) k bO) (x.term.to.take k)):=h! ((ix.out.below HW.out).take (by have:=dn.out;omega))
   obtain ⟨cc,er⟩ : ∃ cc,cc=(x.term.to.take k).contains (tn:Int):=⟨_,rfl⟩
   have fs:Hid (((toB f j).take k).contains tn=cc):=h! (by
    rw [er,nB (fun y hy=>by have:=fF.out y (cU hy);omega),fc.out,List.map_take])
   have gl:=h! (sV (x:=(tn:Int)) hZ.out)
   rw [<-er] at gl
   clear ht eb hG er
   go_wp2_with fail
   refine gl.out.mono ?_
   rintro e w6 ⟨rfl,rfl⟩
   clear jd
   have hF:Hid (bp < w5.heap.size/\w3.heap.size < w5.heap.size/\w.heap.size < w5.heap.size/\bg < w5.heap.size/\aa < w5.heap.size/\lg < w5.heap.size):=h! ⟨ad.out.box.lt,B5.out.lt,B1.out.lt,BG.out.lt,GV.out.lt,ah.out.lt⟩
   cases cc
   ·obtain ⟨v,iz,jn,ec⟩:=ad.out.at (kB (f:=f) (i:=j) (k:=k) (show tn < f.blocks.length by have:=ao.out;omega))
    clear jn
    obtain ⟨n,hn⟩ : ∃ n,n=(natI (gJ f j k tn)).length:=⟨_,rfl⟩
    have hnle:n <= j+1:=by rw [hn,fT];exact oI f j k tn
    rw [<-hn] at ec
    have HN:=h! hn
    have HO:=h! ec
    obtain ⟨va,vc,rfl⟩:=ec.form
    obtain ⟨X,hX⟩ : ∃ X,X=((Value.slice va n vc).ownBlock).toList:=⟨_,rfl⟩
    have fi:∀ k,(Value.slice va n vc).ownBlock=some k ↔ k ∈ X:=fun k=>by rw [hX];simp [eq_comm]
    have hd:=h! fi
    have hz:lg ∉ X:=fun hm=>HO.out.free _ ((fi lg).2 hm) (by simp)
    obtain ⟨XF,dw,hw⟩:=vI 14 (fun q=>(Value.slice va n vc).ownBlock=some q)
    have HX:=h! (And.intro dw hw)
    have ea:Hid (∀ q,Four.All XF q -> (Value.slice va n vc).ownBlock=some q):=h! (fun q ⟨i,h⟩=>by obtain rfl:=HX.out.2 i q h;exact (HX.out.1 q).1 h)
    have xW:∀ i q,XF i q -> q < w5.heap.size:=fun i q h=>(HO.out.lt (ea.out q ⟨i,h⟩)).1
    have xI:∀ w w' : World,True -> Below w.heap.size w w' -> True:=fun _ _ _ _=>trivial
    have iv:True:=trivial
    have ci:∀ q,q < w5.heap.size -> Four.All XF q -> w.heap.size <= q:=fun q _ h=>(HO.out.lt (ea.out q h)).2
    have ay:∀ y ∈ [bp,w3.heap.size,w.heap.size,bg,aa,lg], ¬ Four.All XF y:=fun y hy h=>HO.out.free _ (ea.out y h) hy
    have en:¬ Four.All XF bp:=ay _ (by simp)
    have ee:¬ Four.All XF w3.heap.size:=ay _ (by simp)
    have dz:¬ Four.All XF w.heap.size:=ay _ (by simp)
    have ei:¬ Four.All XF bg:=ay _ (by simp)
    have eh:¬ Four.All XF aa:=ay _ (by simp)
    clear hX fi ay hn ec dw hw
    clear ae an aq af aj ai ag ak al bw cd cf
    have BR:=h! ad.out.box
    obtain ⟨ae,an,aq⟩:=B1.out
    obtain ⟨af,aj,ai⟩:=GV.out
    obtain ⟨ag,ak,al⟩:=BG.out
    obtain ⟨bw,cd,cf⟩:=B5.out
    obtain ⟨ez,gh,fk⟩:=BR.out
    go_upto_region 9 with (fail)
    refine Four.wp_region_grow (XF:=XF) (I:=(fun _=>True)) 16 (fun ν kz=>match kz with | 13=>.made w5.heap.size (fun b=>.slice (some ⟨b,0,none⟩) 1 1) #[.int .i64 j] | 14=>.holds (fun u w'=>AppS w5 w.heap.size [bp,w3.heap.size,w.heap.size,bg,aa,lg] 3 1 (.slice va n vc) (n+1) ((natI (gJ f j k tn)).map (.int .i64) ++ [.int .i64 j]) u w') | _=>.plain) (by kernel_rfl) (by kernel_rfl) ?_ ?_ xW xI iv ?_ (fun ν => ?_)
    ·(intro ν k;(try dsimp only);split <;> first | exact True.intro | (intro u w1 w2 hu hb;exact hu.later (hb.below (Nat.le_refl _) (fun q _ ⟨j,hj,h⟩=>absurd (HX.out.2 j q h) hj))))
    ·(intro ν ν' k h;first | rfl | ((try dsimp only);split <;> first | rfl))
    ·(intro ν j B mk A h;(try dsimp only at h);split at h <;> first | (cases h;exact Nat.le_refl _) | cases h)
    simp only [aO,aS,aP,aU]
    iterate 13 (refine Four.Grow.val (v := ?_) rfl rfl (fun wg hbg hdg => ?_) ?_;rotate_left;(focus ((obtain ⟨lg0,cg0,fg0⟩:=B1.out.off hbg.off dz);(obtain ⟨fx,gs,fw⟩:=GV.out.off hbg.off eh);(obtain ⟨fj,fm,fz⟩:=BG.out.off hbg.off ei);(obtain ⟨ho,hr,fL⟩:=B5.out.off hbg.off ee);(obtain ⟨gi,gB,hs⟩:=BR.out.off hbg.off en);clear hbg hdg;first | (go_simp;done) | (go_simp;with_reducible rfl)));simp only [Act.put,aA,aD,aE])
    refine Four.Grow.made (T := ?_) rfl rfl (fun wg hbg hdg => ?_) ?_
    rotate_left
    focus ((obtain ⟨lg0,cg0,fg0⟩:=B1.out.off hbg.off dz);(obtain ⟨fx,gs,fw⟩:=GV.out.off hbg.off eh);(obtain ⟨fj,fm,fz⟩:=BG.out.off hbg.off ei);(obtain ⟨ho,hr,fL⟩:=B5.out.off hbg.off ee);(obtain ⟨gi,gB,hs⟩:=BR.out.off hbg.off en);clear hbg hdg;first | (go_simp;done) | (go_simp;with_reducible rfl))
    simp only [Act.put,Known.val,aA,aD,aE]
    refine Four.Grow.gives rfl (fun wg hbg hdg => ?_) ?_
    focus ((obtain ⟨bn,e6,dk,hP⟩:=hdg 13 (by kernel_rfl);have fo:Below w5.heap.size w5 wg:=hbg.1.below (aB _) (fun q _ ⟨j,hj,_,h⟩=>absurd (HX.out.2 j q h) hj);have fg:=fo.size;simp only [e6];exact qC (.tmp 60) (.tmp 62) 22 3 rfl mI rfl rfl (HO.out.later fo) (Row.of_box (n:=1) (size:=1) hP rfl (by omega)) (by simp [Value.oneCell']) (by unfold maxLen;omega) (by omega) (bE HW.out.size fg) (fun y hy=>aY (by have h9:=bm.out;have h8:=hF.out;simp at hy;omega) fg) fg (fun q hq=>(HX.out.1 q).2 hq)))
    simp only [Act.put,Known.val,aA,aD,aE]
    refine Four.Grow.val (v := ?_) rfl rfl (fun wg hbg hdg => ?_) ?_
    rotate_left
    focus ((obtain ⟨lg0,cg0,fg0⟩:=B1.out.off hbg.off dz);(obtain ⟨fx,gs,fw⟩:=GV.out.off hbg.off eh);(obtain ⟨fj,fm,fz⟩:=BG.out.off hbg.off ei);(obtain ⟨ho,hr,fL⟩:=B5.out.off hbg.off ee);(obtain ⟨gi,gB,hs⟩:=BR.out.off hbg.off en);clear hbg hdg;first | (go_simp;done) | (go_simp;with_reducible rfl))
    simp only [Act.put,aA,aD,aE]
    intro wg hb hf br
    obtain ⟨bd,cF,cn,dd⟩:=hf 13 (by omega)
    have df:bd ≠ w.heap.size:=fun e=>by have:=ae;omega
    have nB1BN:w.heap.size ≠ bd:=fun e=>df e.symm
    have dt:bd ≠ aa:=fun e=>by have:=af;omega
    have nGVBN:aa ≠ bd:=fun e=>dt e.symm
    have cr:bd ≠ bg:=fun e=>by have:=ag;omega
    have nBGBN:bg ≠ bd:=fun e=>cr e.symm
    have db:bd ≠ w3.heap.size:=fun e=>by have:=bw;omega
    have nB5BN:w3.heap.size ≠ bd:=fun e=>db e.symm
    have cz:bd ≠ bp:=fun e=>by have:=ez;omega
    have nBRBN:bp ≠ bd:=fun e=>cz e.symm
    simp only [cF]
    clear cF
    clear br
    have gBN:=bE HW.out.size cn
    clear cn
    clear ae an aq af aj ai ag ak al bw cd cf ez gh fk
    replace B1:=h! (B1.out.off hb.1 dz)
    replace GV:=h! (GV.out.off hb.1 eh)
    replace BG:=h! (BG.out.off hb.1 ei)
    replace B5:=h! (B5.out.off hb.1 ee)
    replace BR:=h! (BR.out.off hb.1 en)
    replace HW:=h! (HW.out.trans (hb.1.below HW.out.size ci))
    have BN:=h! dd
    clear dd
    obtain ⟨ae,an,aq⟩:=B1.out
    obtain ⟨af,aj,ai⟩:=GV.out
    obtain ⟨ag,ak,al⟩:=BG.out
    obtain ⟨bw,cd,cf⟩:=B5.out
    obtain ⟨ez,gh,fk⟩:=BR.out
    obtain ⟨lBN,cBN,fBN⟩:=BN.out
    simp only [bH,Nat.reduceAdd]
    have hS:AppS w5 w.heap.size [bp,w3.heap.size,w.heap.size,bg,aa,lg] 3 1 (.slice va n vc) (n+1) ((natI (gJ f j k tn)).map (.int .i64) ++ [.int .i64 j]) (ν 14) wg:=hf 14 (by omega)
    clear hf
    obtain ⟨ef,bc⟩:=hS
    obtain ⟨bf,bk,e7⟩:=ef.form
    rw [e7] at ef bc
    simp only [e7]
    have cg:Turn X w5 wg:=⟨hb.1.os,hb.1.tape,hb.1.output,hb.1.size,fun k hk hn=>hb.1.block k hk (fun h=>hn ((hd.out k).1 (ea.out k h)))⟩
    have fl:Kept [] (.slice va n vc) (.slice bf (n+1) bk) w5 wg:=⟨cg.os,cg.tape,cg.output,cg.size,fun k hk _ hn=>cg.block k hk (fun hm=>hn ((hd.out k).2 hm)),bc⟩
    have ir:Hid (Bag (wg.setCell ⟨bp,tn,none⟩ (.slice bf (n+1) bk)) w.heap.size [w3.heap.size,w.heap.size,bg,aa,lg] bp 3 (vs.set tn (.slice bf (n+1) bk)) (jY f j (k+1))):=h! (by
     rw [<-aAQ gw.out fs.out (by have:=ao.out;omega)]
     refine ad.out.put iz (kB (by have:=ao.out;omega)) ?_ fl
     have e9:natI (gJ f j k tn ++ [j])=natI (gJ f j k tn) ++ [(j:Int)]:=by simp [natI]
     rw [e9,aI,aZ, <-HN.out]
     exact ef)
    have ji:=h! ((ah.out.turn cg hz).other (p:=⟨bp,tn,none⟩) (.slice bf (n+1) bk) (Ne.symm gn))
    have hT:=h! (HW.out.setCell (p:=⟨bp,tn,none⟩) (by have:=bh.out;simp only;omega) (.slice bf (n+1) bk))
    have ie:=h! (B1.out.other (p:=⟨bp,tn,none⟩) (.slice bf (n+1) bk) ej.out.2.1)
    have ih:=h! (GV.out.other (p:=⟨bp,tn,none⟩) (.slice bf (n+1) bk) ej.out.2.2.1)
    have je:=h! (BG.out.other (p:=⟨bp,tn,none⟩) (.slice bf (n+1) bk) ej.out.2.2.2)
    have jr:=h! (B5.out.other (p:=⟨bp,tn,none⟩) (.slice bf (n+1) bk) ej.out.1)
    clear ef bc fl hb e7 BN
    go_wp2
    go_roundw
    case rel=>exact ⟨k+1,_,hltk,by go_num,ir.out,ji.out,hT.out,ie.out,ih.out,je.out,jr.out⟩
    simp [intOf];omega
   go_wp2
   go_roundw
   case rel=>exact ⟨k+1,vs,hltk,by go_num,by rw [aAR gw.out fs.out];exact ad.out,ah.out,HW.out,B1.out,GV.out,BG.out,B5.out⟩
   simp [intOf];omega
  obtain rfl:k=tl:=by omega
  have jp:Hid (jY f j k=jY f (j+1) 0):=h! (by rw [<-xM,fc.out,aW, <-dn.out])
  go_wp2
  go_roundw
  case rel=>exact ⟨j+1,vs,hlt,by go_num,by rw [<-jp.out];exact ad.out.less (by simp),ah.out,HW.out,B1.out,GV.out,BG.out⟩
  simp [intOf];omega
 have gc:j=nb:=by omega
 replace ad:Hid (Bag w3 w.heap.size [w3.heap.size,w.heap.size,bg,aa,lg] bp 3 vs (gZ f)):=h! (by have:=ad.out.more (aB _);unfold gZ;rw [<-ao.out, <-gc];exact this)
 have ep:=run_make_row' (P:=Tryz.prog) 124 4 (.bool false) 1 Tryz.underlying124 oJ rfl .i64 .i64 nb (by omega) (by omega)
 have bm:Hid (bp < w3.heap.size/\w.heap.size < w3.heap.size/\bg < w3.heap.size/\aa < w3.heap.size/\lg < w3.heap.size):=h! ⟨by have:=ad.out.box.lt;omega,by omega,by omega,by omega,ah.out.lt⟩
 clear hj gc
 go_upto_region 15 with (fail)
 have dl:w3.heap.size ≠ w.heap.size:=fun e=>by have:=ae;omega
 have nB1FL:w.heap.size ≠ w3.heap.size:=fun e=>dl e.symm
 have ds:w3.heap.size ≠ aa:=fun e=>by have:=af;omega
 have nGVFL:aa ≠ w3.heap.size:=fun e=>ds e.symm
 have di:w3.heap.size ≠ bg:=fun e=>by have:=ag;omega
 have nBGFL:bg ≠ w3.heap.size:=fun e=>di e.symm
 have cs:w3.heap.size+1 ≠ w.heap.size:=fun e=>by have:=ae;omega
 have nB1BB:w.heap.size ≠ w3.heap.size+1:=fun e=>cs e.symm
 have dh:w3.heap.size+1 ≠ aa:=fun e=>by have:=af;omega
 have nGVBB:aa ≠ w3.heap.size+1:=fun e=>dh e.symm
 have ch:w3.heap.size+1 ≠ bg:=fun e=>by have:=ag;omega
 have nBGBB:bg ≠ w3.heap.size+1:=fun e=>ch e.symm
 have nBBFL:w3.heap.size+1 ≠ w3.heap.size:=by omega
 have nFLBB:w3.heap.size ≠ w3.heap.size+1:=by omega
 have ct:w3.heap.size+1+1 ≠ w.heap.size:=fun e=>by have:=ae;omega
 have nB1BV:w.heap.size ≠ w3.heap.size+1+1:=fun e=>ct e.symm
 have co:w3.heap.size+1+1 ≠ aa:=fun e=>by have:=af;omega
 have nGVBV:aa ≠ w3.heap.size+1+1:=fun e=>co e.symm
 have cx:w3.heap.size+1+1 ≠ bg:=fun e=>by have:=ag;omega
 have nBGBV:bg ≠ w3.heap.size+1+1:=fun e=>cx e.symm
 have nBVFL:w3.heap.size+1+1 ≠ w3.heap.size:=by omega
 have nFLBV:w3.heap.size ≠ w3.heap.size+1+1:=by omega
 have nBVBB:w3.heap.size+1+1 ≠ w3.heap.size+1:=by omega
 have nBBBV:w3.heap.size+1 ≠ w3.heap.size+1+1:=by omega
 clear ae an aq af aj ai ag ak al
 have ac:=(Below.refl w3.heap.size w3).alloc (aB _) (.cells (madeCells #[.bool false] nb) 4)
 replace B1:=h! (B1.out.later ac)
 replace GV:=h! (GV.out.later ac)
 replace BG:=h! (BG.out.later ac)
 replace ad:=h! (ad.out.later ac)
 replace ah:=h! (ah.out.later ac)
 replace HW:=h! (HW.out.trans (ac.mono HW.out.size))
 clear ac
 have FL:=h! (Box.new w3 (madeCells #[.bool false] nb) 4)
 have bx:(w3.alloc (.cells (madeCells #[.bool false] nb) 4)).heap.size=w3.heap.size+1:=World.size_alloc _ _
 generalize w3.alloc (.cells (madeCells #[.bool false] nb) 4)=ba at *
 have ac:=(Below.refl ba.heap.size ba).alloc (aB _) (.cells #[.slice (some ⟨w3.heap.size,0,none⟩) nb nb] 124)
 replace B1:=h! (B1.out.later ac)
 replace GV:=h! (GV.out.later ac)
 replace BG:=h! (BG.out.later ac)
 replace FL:=h! (FL.out.later ac)
 replace ad:=h! (ad.out.later ac)
 replace ah:=h! (ah.out.later ac)
 replace HW:=h! (HW.out.trans (ac.mono HW.out.size))
 clear ac
 have BB:=h! (Box.new ba #[.slice (some ⟨w3.heap.size,0,none⟩) nb nb] 124)
 rw [bx] at BB
 have dq:(ba.alloc (.cells #[.slice (some ⟨w3.heap.size,0,none⟩) nb nb] 124)).heap.size=w3.heap.size+1+1:=by rw [World.size_alloc,bx]
 clear bx
 generalize ba.alloc (.cells #[.slice (some ⟨w3.heap.size,0,none⟩) nb nb] 124)=bi at *
 have ac:=(Below.refl bi.heap.size bi).alloc (aB _) (.cells #[.func (.func 128) #[] #[.pointer (some ⟨w3.heap.size+1,0,none⟩),.pointer (some ⟨w.heap.size,0,none⟩),.pointer (some ⟨w3.heap.size+1+1,0,none⟩),.pointer (some ⟨aa,0,none⟩)]] 193)
 replace B1:=h! (B1.out.later ac)
 replace GV:=h! (GV.out.later ac)
 replace BG:=h! (BG.out.later ac)
 replace FL:=h! (FL.out.later ac)
 replace BB:=h! (BB.out.later ac)
 replace ad:=h! (ad.out.later ac)
 replace ah:=h! (ah.out.later ac)
 replace HW:=h! (HW.out.trans (ac.mono HW.out.size))
 clear ac
 have BV:=h! (Box.new bi #[.func (.func 128) #[] #[.pointer (some ⟨w3.heap.size+1,0,none⟩),.pointer (some ⟨w.heap.size,0,none⟩),.pointer (some ⟨w3.heap.size+1+1,0,none⟩),.pointer (some ⟨aa,0,none⟩)]] 193)
 rw [dq] at BV
 clear dq
 generalize bi.alloc (.cells #[.func (.func 128) #[] #[.pointer (some ⟨w3.heap.size+1,0,none⟩),.pointer (some ⟨w.heap.size,0,none⟩),.pointer (some ⟨w3.heap.size+1+1,0,none⟩),.pointer (some ⟨aa,0,none⟩)]] 193)=w4 at *
 obtain ⟨ae,an,aq⟩:=B1.out
 obtain ⟨af,aj,ai⟩:=GV.out
 obtain ⟨ag,ak,al⟩:=BG.out
 obtain ⟨hN,hQ,jk⟩:=FL.out
 obtain ⟨jw,hE,jo⟩:=BB.out
 obtain ⟨jj,ip,jq⟩:=BV.out
 clear ep
 have gz:(⟨w3.heap.size+1,w3.heap.size,w.heap.size,w3.heap.size+1+1,aa,bg⟩ : VisN).list.Nodup:=by
  simp only [VisN.list,eH,bU,eB,or_false,not_or,not_false_eq_true,List.nodup_nil,and_true]
  have:=bm.out
  omega
 have hl:Hid (VisI ⟨w3.heap.size+1,w3.heap.size,w.heap.size,w3.heap.size+1+1,aa,bg⟩ w.heap.size nb #[.slice ap np cp,.int .i64 ar,.int .i64 ce,.slice (some ⟨bb,bo,none⟩) nb cb] (.slice (some ⟨bp,0,none⟩) nb nb) (.slice (some ⟨lg,0,none⟩) nb am) w4 (List.replicate nb false) [] (.slice none 0 0)) :=
  h! ⟨BB.out,by have:=FL.out;rwa [kQ] at this,B1.out,BV.out,GV.out,by simpa using BG.out,Own.nil,by simp,gz⟩
 clear gz
 have hi:Hid (Calls Tryz.prog 128 #[.int .i64 0,.pointer (some ⟨w3.heap.size+1,0,none⟩),.pointer (some ⟨w.heap.size,0,none⟩),.pointer (some ⟨w3.heap.size+1+1,0,none⟩),.pointer (some ⟨aa,0,none⟩)] w4
   (VisR f ⟨w3.heap.size+1,w3.heap.size,w.heap.size,w3.heap.size+1+1,aa,bg⟩ w.heap.size nb #[.slice ap np cp,.int .i64 ar,.int .i64 ce,.slice (some ⟨bb,bo,none⟩) nb cb] (.slice (some ⟨bp,0,none⟩) nb nb) (.slice (some ⟨lg,0,none⟩) nb am) w w4 (List.replicate nb false) [] (.slice none 0 0) 0)):=h!
  (aCV ao.out fG hD gx gf gg.out (fun j x h t ht=>by rw [ao.out];exact gd.out j x h t ht) (by intro b hb;simp [VisN.list] at hb;have:=bm.out;have:=bh.out;omega) nb w4 (List.replicate nb false) [] (.slice none 0 0) 0 (by rw [eJ];exact aB _) (by rw [eJ];simp only [cN];omega) hl.out HW.out (by rw [dN,if_pos (by omega)]))
 have gr:=h! (⟨by have:=bm.out;omega,by have:=bm.out;omega,ah.out.lt,ad.out.box.lt,HW.out.size⟩ : w3.heap.size < w4.heap.size/\bg < w4.heap.size/\lg < w4.heap.size/\bp < w4.heap.size/\w.heap.size <= w4.heap.size)
 have eg1:∀ (args:Array Value) (w:World),(callFunc 128 args).run Tryz.prog w = .ok (.enter 128 args) w:=sT
 go_upto_region 16 with (go_at_fn 128;refine hi.out.mono ?_;rintro e w5 ⟨rfl,s',d',ov',fp,hx,hK,gy⟩;have fM:=h! fp;have be:=h! hx;have bt:=h! hK;have gq:=h! gy;clear fp hx hK gy)
 obtain ⟨O,hO⟩ : ∃ O,O=(d' ++ [0]).reverse:=⟨_,rfl⟩
 have em:O.reverse=d' ++ [0]:=by rw [hO,List.reverse_reverse]
 have fe:Hid (fO f O):=h! ⟨s',by
  rw [em, <-ao.out]
  exact .go (by rw [dN,if_pos (by omega)]) fM.out (.nil _ _)⟩
 obtain ⟨gb, -,ew,ey, -⟩:=fe.out.facts
 obtain ⟨m,hm⟩ : ∃ m,m=O.length:=⟨_,rfl⟩
 have cy:(d' ++ [0]).length=m:=by rw [<-em,eR, <-hm]
 have HM:=h! hm
 have hm1:1 <= m:=by rw [hm];exact Nat.pos_of_ne_zero fun e=>by rw [cA e] at ey;cases ey
 have hmn:m <= nb:=by rw [hm,ao.out];exact fe.out.le
 have jv:=h! gb
 have hH:=h! ew
 have HOR:=h! em
 have bl:=be.out.own
 rw [cy] at bl
 obtain ⟨oa,oc,rfl⟩:=bl.form
 have cv:∀ k,(Value.slice oa m oc).ownBlock=some k -> w4.heap.size <= k:=fun k hk=>(bt.out.own k hk).resolve_left (by simp [Value.ownBlock])
 have bv:=h! cv
 have ek:Hid (Own w5 w.heap.size [w3.heap.size+1,w3.heap.size,w.heap.size,w3.heap.size+1+1,aa,bg] 3 1 (.slice oa m oc) (natI (d' ++ [0])).length ((natI (d' ++ [0])).map (.int .i64))):=h! (by
  rw [fT,cy]
  have e9:(natI (d' ++ [0])).map (Value.int .i64)=(d' ++ [0]).map fun x:Nat=>Value.int .i64 x:=by unfold natI;rw [cK];rfl
  rw [e9];exact bl)
 have jl:Hid ((natI (d' ++ [0])).length=m):=h! (by rw [fT,cy])
 have ck:Hid (∀ w',Own w' w.heap.size [w3.heap.size+1,w3.heap.size,w.heap.size,w3.heap.size+1+1,aa,bg] 3 1 (.slice oa m oc) (natI (d' ++ [0])).length ((natI (d' ++ [0])).reverse.map (.int .i64)) -> Ints w' (.slice oa m oc) (natI O)):=h! (fun w' h=>by
  have e9:(natI (d' ++ [0])).reverse=natI O:=by unfold natI;rw [<-List.map_reverse,hO]
  rw [e9] at h
  have h2:=h.row
  rw [fT,cy,hm, <-fT O] at h2
  have h3:=Ints.of_own h2 (by rw [fT];omega) (uH fun b hb=>by have:=ew b hb;have:=ao.out;omega)
  rw [fT, <-hm] at h3
  rw [hm];rw [hm] at h3;exact h3)
 clear hO em gb ew ey hm cy bl cv
 clear ae an aq af aj ai ag ak al hN hQ jk jw hE jo jj ip jq
 replace GV:=h! be.out.gvar
 replace BG:Hid (Box w5 bg #[.slice ap np cp,.int .i64 ar,.int .i64 ce,.slice (some ⟨bb,bo,none⟩) nb cb,(.slice (some ⟨bp,0,none⟩) nb nb),.slice oa m oc,(.slice (some ⟨lg,0,none⟩) nb am)]):=h! (by simpa using be.out.graph)
 obtain ⟨af,aj,ai⟩:=GV.out
 obtain ⟨ag,ak,al⟩:=BG.out
 clear B1 FL BB BV
 go_upto_region 17 with (go_at_call 129;refine (xL ek.out (by rw [jl.out];omega)).mono ?_;rintro e w6 ⟨rfl,gj,fq⟩;have gm:=h! gj;have bj:=h! fq;clear gj fq)
 have fd:Hid (Turn [w3.heap.size,bg] w4 w6):=h! ⟨bj.out.os.trans bt.out.os,bj.out.tape.trans bt.out.tape,bj.out.output.trans bt.out.output,bE bt.out.size bj.out.size,fun k hk hm=>(bj.out.block k (aY hk bt.out.size) (by simp) (fun e=>by have:=bv.out k e;omega)).trans (bt.out.block k hk hm (by simp [Value.ownBlock]))⟩
 replace ad:=h! (ad.out.turn fd.out (by have:=bm.out;have:=bh.out;simp only [bU,eB,or_false];omega) (by intro y hy;simp at hy ⊢;rcases hy with rfl | rfl <;> simp))
 replace ah:=h! (ah.out.turn fd.out (by have:=bm.out;have:=bh.out;simp only [bU,eB,or_false];omega))
 clear af aj ai ag ak al
 replace GV:=h! (GV.out.kept bj.out (by simp) (fun e=>ek.out.free _ e (by simp)))
 replace BG:=h! (BG.out.kept bj.out (by simp) (fun e=>ek.out.free _ e (by simp)))
 have HI:=h! (ck.out w6 gm.out)
 replace HW:=h! (bj.out.below gq.out (by simp) (fun k hk=>by have:=bv.out k hk;have:=gr.out;omega))
 clear ck gm bj bt fd ek be hl hi fM gq
 obtain ⟨af,aj,ai⟩:=GV.out
 obtain ⟨ag,ak,al⟩:=BG.out
 go_wp2_with fail
 go_loopw [84] (fun i wr => ∃ q:Nat,q <= m/\i = .int .i64 q/\Cells wr (.slice (some ⟨lg,0,none⟩) nb am) lg (iI nb O q)/\Ints wr (.slice oa m oc) (natI O)/\Bag wr w.heap.size [w3.heap.size,w.heap.size,bg,aa,lg] bp 3 vs (gZ f)/\Below w.heap.size w wr/\Box wr aa #[.pointer (some ⟨bg,0,none⟩)]/\Box wr bg #[.slice ap np cp,.int .i64 ar,.int .i64 ce,.slice (some ⟨bb,bo,none⟩) nb cb,(.slice (some ⟨bp,0,none⟩) nb nb),.slice oa m oc,(.slice (some ⟨lg,0,none⟩) nb am)]) (fun i _=>m - (intOf i).toNat)
 case atStart=>exact ⟨0,aJ _,rfl,by rw [sW];exact ah.out,HI.out,ad.out,HW.out,GV.out,BG.out⟩
 obtain ⟨q,hq,rfl,hL,hI,hR,hW,h2,h3⟩:=hrel
 clear af aj ai ag ak al
 replace ah:=h! hL
 replace HI:=h! hI
 replace ad:=h! hR
 replace HW:=h! hW
 replace GV:=h! h2
 replace BG:=h! h3
 clear hL hI hR hW h2 h3
 obtain ⟨af,aj,ai⟩:=GV.out
 obtain ⟨ag,ak,al⟩:=BG.out
 by_cases hltq:q < m
 ·obtain ⟨ia,ic,ib,io,hA,im,him,hh,ft⟩:=HI.out.parts
  injection hA with e1 e2 e3
  subst e1 e3
  obtain ⟨rfl,hib⟩:=hh (by omega)
  obtain ⟨bn,dk⟩ : ∃ bn,O[q]? = some bn:=⟨_,aC (by have:=HM.out;omega)⟩
  have iw:=ft q (by omega)
  rw [show (natI O).getD q 0=(bn:Int) by unfold natI;rw [aK,aQ,dk];rfl] at iw
  have dc:bn < nb:=by have:=hH.out bn (aG dk);have:=ao.out;omega
  have HQ:=h! dk
  obtain ⟨y,hy⟩ : ∃ y,(iI nb O q)[bn]? = some y:=⟨_,aC (by rw [fY];exact dc)⟩
  obtain ⟨lc2, -, -, -,hcl,fv⟩:=ah.out.form
  have hpc:=hcl bn y hy
  have hpf:=fv bn
  clear hh ft dk hy hcl fv e2 im
  go_wp2
  go_roundw
  case rel =>
   exact ⟨q+1,hltq,by go_num,by rw [<-xN jv.out HQ.out dc];exact ah.out.set (by rw [fY];exact dc),HI.out.other _ (fun g hg e=>by have:=bv.out g hg;have:=gr.out;simp only at e;omega),
    ad.out.other _ (by simp) gn,HW.out.setCell (p:=⟨lg,bn,none⟩) (by have:=bh.out;simp only;omega) _,GV.out.other _ (Ne.symm dv),BG.out.other _ (by have:=bh.out;simp only;omega)⟩
  simp [intOf];omega
 have jx:q=m:=by omega
 have ga:=h! (ad.out.lists (by unfold gZ;rw [iL];have:=ao.out;omega) (vJ (by have:=ao.out;omega)))
 have gk:=h! (ah.out.ints (by rw [fY];omega) (aAS _ (by have:=HM.out;omega)))
 have js:Hid ((gZ f).length=nb):=h! (by unfold gZ;rw [iL,ao.out])
 rw [js.out] at ga
 rw [jx,HM.out,ao.out] at gk
 go_wp2
 go_ret
 exact ⟨bg,O,rfl,fe.out,⟨_,_,_,_,_,_,_,rfl,BG.out,by have:=bh.out;omega,ga.out,HI.out,by have:=gk.out;rw [<-ao.out] at this ⊢;exact this⟩,HW.out⟩
end
section
open Go.RowKit
theorem fC {f:FuncD} (h:eZ f=0):gW f=true/\idsF f=true:=by
 unfold eZ at h
 split at h
 ·rename_i h2;simpa using h2
 cases h
def gA (w0 W:World):Prop:=Below w0.heap.size w0 W
theorem gA.later {w0 W W' : World} (h:gA w0 W) (hb:Below W.heap.size W W'):gA w0 W':=Below.trans h (hb.mono (Below.size h))
theorem nC.later {f:FuncD} {v:Value} {w0 W W' : World} {bg:Nat} {O:List Nat} (h:nC f v w0 W bg O) (hb:Below W.heap.size W W'):nC f v w0 W' bg O:=by
 obtain ⟨a0,a1,a2,a3,pv,ov,lv,e,h1,h2,h3,h4,h5⟩:=h
 exact ⟨a0,a1,a2,a3,pv,ov,lv,e,h1.later hb,h2,h3.below hb,h4.below hb,h5.below hb⟩
theorem nC.from {f:FuncD} {v:Value} {w0 w1 W:World} {bg:Nat} {O:List Nat} (h:nC f v w1 W bg O) (hs:w0.heap.size <= w1.heap.size):nC f v w0 W bg O:=by
 obtain ⟨a0,a1,a2,a3,pv,ov,lv,e,h1,h2,h3,h4,h5⟩:=h
 exact ⟨a0,a1,a2,a3,pv,ov,lv,e,h1,by omega,h3,h4,h5⟩
def aF1 (f:FuncD) (v:Value) (w:World) (e:Ending) (w' : World):Prop :=
 Below w.heap.size w w' /\ ((eZ f ≠ 0/\e = .returned (.tuple #[.pointer none,.int .i64 (eZ f)])) \/ (eZ f=0 /\ ∃ bg O,e = .returned (.tuple #[.pointer (some ⟨bg,0,none⟩),.int .i64 0])/\fO f O/\nC f v w w' bg O))
theorem aA7 {w:World} {v:Value} {f:FuncD} (hv:fU w v f):Calls Tryz.prog 134 #[v] w (aF1 f v w):=by
 have HV:=h! hv
 obtain ⟨ap,cp,ab,cb,rfl,hp,ha,hc,hB⟩:=hv.form
 clear hp ha hc hB hv
 go_enter Tryz.func134,Tryz.ntmps134
 go_upto_region 1 with (fail)
 have ag:=(Below.refl w.heap.size w).alloc (aB _) (.cells #[.slice ap f.params.length cp,.int .i64 f.arrays,.int .i64 f.cells,.slice ab f.blocks.length cb] 25)
 have HW:=h! ag
 clear ag
 have B1:=h! (Box.new w #[.slice ap f.params.length cp,.int .i64 f.arrays,.int .i64 f.cells,.slice ab f.blocks.length cb] 25)
 generalize w.alloc (.cells #[.slice ap f.params.length cp,.int .i64 f.arrays,.int .i64 f.cells,.slice ab f.blocks.length cb] 25)=wv at *
 obtain ⟨ad,aa,ac⟩:=B1.out
 go_wp2_with fail
 refine (aEH (HV.out.below HW.out)).mono ?_
 rintro e w2 ⟨rfl,hb⟩
 clear ad aa ac
 replace B1:=h! (B1.out.later hb)
 replace HW:=h! (HW.out.trans (hb.mono HW.out.size))
 clear hb
 obtain ⟨ad,aa,ac⟩:=B1.out
 cases hc0:(eZ f == 0)
 ·have ai:(eZ f != 0)=true:=by simp [bne,hc0]
  have ah:=h! hc0
  go_wp2
  go_ret2
  exact ⟨HW.out,.inl ⟨by simpa using ah.out,rfl⟩⟩
 have ai:(eZ f != 0)=false:=by simp [bne,hc0]
 have af:Hid (eZ f=0):=h! (by simpa using hc0)
 go_wp2_with fail
 refine (vP (HV.out.below HW.out) (fC af.out).1).mono ?_
 rintro e w3 ⟨bg,O,rfl,hO,hG,ae⟩
 have HO:=h! hO
 have HG:=h! (hG.from HW.out.size)
 clear hO hG
 clear ad aa ac
 replace B1:=h! (B1.out.later ae)
 replace HW:=h! (HW.out.trans (ae.mono HW.out.size))
 clear ae
 obtain ⟨ad,aa,ac⟩:=B1.out
 go_wp2
 go_ret2
 exact ⟨HW.out,.inr ⟨af.out,bg,O,rfl,HO.out,HG.out⟩⟩
def oB (w:World) (v:Value) (xs:List Bool):Prop:=Row w v xs.length 1 (xs.map .bool)
theorem oB.below {w w' : World} {v:Value} {xs:List Bool} (h:oB w v xs) (hb:Below w.heap.size w w'):oB w' v xs:=Row.below h hb
theorem oB.nil {w:World}:oB w (.slice none 0 0) []:=Row.nil
theorem oB.form {w:World} {v:Value} {xs:List Bool} (h:oB w v xs):∃ a c,v = .slice a xs.length c:=by
 obtain ⟨a,c,hv,_⟩:=h.is
 exact ⟨a,c,hv⟩
theorem oB.parts {w:World} {v:Value} {xs:List Bool} (h:oB w v xs) :
  ∃ a cap b off,v = .slice a xs.length cap/\xs.length <= cap/\cap <= 9223372036854775807/\(0 < xs.length -> a=some ⟨b,off,none⟩/\b < w.heap.size) /\
   ∀ (j:Nat) (x:Bool),xs[j]? = some x -> w.cell? ⟨b,off+j,none⟩=some (.bool x):=by
 obtain ⟨a,cap,b,off,hv,h1,h2,h3,h4⟩:=Row.parts h
 exact ⟨a,cap,b,off,hv,h1,by unfold maxLen at h2;omega,by simpa using h3,fun j x hj=>h4 j _ (by simp [hj])⟩
def nH (f:FuncD) (gone:Int) (S:List Bool):Prop:=S.length=f.blocks.length /\ ∀ b,S[b]? = some true ↔ Way (toB f) gone b
end
end Go.Proofs.YtagabiidbbhhmaaGreat
