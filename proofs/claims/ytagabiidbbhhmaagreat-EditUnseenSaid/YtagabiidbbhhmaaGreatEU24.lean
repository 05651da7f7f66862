/- Part 24. -/
import Derived.Laws.EntriesVeiled
import Derived.Test.YtagabiidbbhhmaaGreatEU19
import Derived.Test.YtagabiidbbhhmaaGreatEU23
namespace Go.Proofs.YtagabiidbbhhmaaGreat
set_option maxHeartbeats 25600000
set_option linter.all false
section
open Go.RowKit
set_option maxRecDepth 100000 in
theorem uW {w:World} {v:Value} {f:FuncD} (hv:fP w v f) (hf:gW f=true):Calls Tryz.prog 72 #[v] w (NewR f v w):=by
 have fs:=h! (fun (b:Nat) (x:BlockD) (h:f.blocks[b]? = some x)=>oC hf h)
 obtain ⟨fa,ga⟩:=gG hf
 obtain ⟨ap,cp,ab,cb,rfl,hp,ha,hc,hB⟩:=hv.form
 obtain ⟨a2,c2,bb,bo,hQ,gr,ik,cB,fe,fL⟩:=eW hB
 cases hQ
 obtain ⟨np,es⟩ : ∃ np,np=f.params.length:=⟨_,rfl⟩
 obtain ⟨nb,fh⟩ : ∃ nb,nb=f.blocks.length:=⟨_,rfl⟩
 rw [<-es]
 rw [<-fh] at gr fe cB fa ga ⊢
 obtain ⟨rfl,fm⟩:=fe fa
 have HNP:=h! es
 have aq:=h! fh
 have gm:=h! fL
 have hn0:(0:Int) <= (nb:Int):=by omega
 clear hp ha hc hB hv fL es fh fe hf
 generalize f.arrays=ar at *
 generalize f.cells=ce at *
 have jk:=run_make_row' (P:=Tryz.prog) 42 22 (.slice none 0 0) 24 Tryz.underlying42 uM rfl .i64 .i64 nb (by omega) (by omega)
 go_enter Tryz.func72,Tryz.ntmps72
 go_upto_region 1 with (fail)
 have ac:=(Below.refl w.heap.size w).alloc (aC _) (.cells #[.slice ap np cp,.int .i64 ar,.int .i64 ce,.slice (some ⟨bb,bo,none⟩) nb cb] 25)
 have HW:=h! ac
 clear ac
 have B1:=h! (Box.new w #[.slice ap np cp,.int .i64 ar,.int .i64 ce,.slice (some ⟨bb,bo,none⟩) nb cb] 25)
 generalize w.alloc (.cells #[.slice ap np cp,.int .i64 ar,.int .i64 ce,.slice (some ⟨bb,bo,none⟩) nb cb] 25)=wv at *
 obtain ⟨ae,ao,an⟩:=B1.out
 have hZ:w.heap.size < wv.heap.size:=ae
 refine Four.wp_region_grow (XF:=(fun _=>Foot.none)) (I:=(fun _=>True)) 13 (fun ν kz=>match kz with | 4=>.made wv.heap.size (fun b=>.slice (some ⟨b,0,none⟩) nb nb) (madeCells #[.slice none 0 0] nb) | 5=>.made wv.heap.size (fun b=>.slice (some ⟨b,0,none⟩) 1 1) #[.int .i64 (-1)] | 9=>.holds (fun u w'=>New 3 wv w' u (List.replicate nb (-1))) | 10=>.holds (GrB wv nb (.slice ap np cp) (.int .i64 ar) (.int .i64 ce) (.slice (some ⟨bb,bo,none⟩) nb cb)) | 11=>.holds (GrP wv nb (.slice ap np cp) (.int .i64 ar) (.int .i64 ce) (.slice (some ⟨bb,bo,none⟩) nb cb)) | 12=>.made wv.heap.size (fun b=>.pointer (some ⟨b,0,none⟩)) #[.pointer none] | _=>.plain) (by kernel_rfl) (by kernel_rfl) ?_ ?_ (fun _ _ h=>h.elim) (fun _ _ _ _=>trivial) trivial ?_ (fun ν => ?_)
 ·(intro ν k;(try dsimp only);split <;> first | exact True.intro | (intro u w1 w2 hu hb;exact hu.later (hb.below (Nat.le_refl _) (fun _ _ ⟨_,_,h⟩=>h.elim))))
 ·(intro ν ν' k h;first | rfl | ((try dsimp only);split <;> first | rfl))
 ·(intro ν j B mk A h;(try dsimp only at h);split at h <;> first | (cases h;exact Nat.le_refl _) | cases h)
 simp only [aP,aU,aS,aX]
 iterate 4 (refine Four.Grow.val (v := ?_) rfl rfl (fun wg hbg hdg => ?_) ?_;rotate_left;(focus ((obtain ⟨lg0,cg0,fg0⟩:=B1.out.off hbg.off (fun ⟨_,h⟩=>h.elim));clear hbg hdg;first | (go_simp;done) | (go_simp;with_reducible rfl)));simp only [Act.put,aA,aE,aF])
 iterate 2 (refine Four.Grow.made (T := ?_) rfl rfl (fun wg hbg hdg => ?_) ?_;rotate_left;(focus ((obtain ⟨lg0,cg0,fg0⟩:=B1.out.off hbg.off (fun ⟨_,h⟩=>h.elim));clear hbg hdg;first | (go_simp;done) | (go_simp;with_reducible rfl)));simp only [Act.put,Known.val,aA,aE,aF])
 iterate 3 (refine Four.Grow.val (v := ?_) rfl rfl (fun wg hbg hdg => ?_) ?_;rotate_left;(focus ((obtain ⟨lg0,cg0,fg0⟩:=B1.out.off hbg.off (fun ⟨_,h⟩=>h.elim));clear hbg hdg;first | (go_simp;done) | (go_simp;with_reducible rfl)));simp only [Act.put,aA,aE,aF])
 refine Four.Grow.call (f := ?_) (args := ?_) rfl (fun wg => ?_) (fun wg hbg hdg => ?_) ?_
 rotate_left 2
 focus (first | (go_simp;done) | (go_simp;refine And.intro ?_ ?_ <;> with_reducible rfl) | (go_simp;with_reducible rfl))
 focus ((obtain ⟨bq,hq,hqB,hX⟩:=hdg 5 (by kernel_rfl));rw [hq];exact (oJ (x := -1) (n:=nb) (oO hX ⟨by decide,by decide⟩) (by omega)).mono (fun e w2 ⟨u,he,hu,hb2⟩=>⟨u,he,hu.from hbg.1.size,hb2⟩))
 simp only [Act.put,Known.val,aA,aE,aF]
 refine Four.Grow.gives rfl (fun wg hbg hdg => ?_) ?_
 focus ((obtain ⟨bp,e4,h4B,h4X⟩:=hdg 4 (by kernel_rfl));(have h9:New 3 wv wg (ν 9) (List.replicate nb (-1)):=hdg 9 (by kernel_rfl));(obtain ⟨g,hcl,hg⟩:=h9.cells (by simp;omega));(obtain ⟨cap,e9, -, -, -, -⟩:=hcl.form);rw [aQ] at e9;rw [e9] at hcl;clear h9 hbg hdg;simp only [e4,e9];refine ⟨_,wg, ?_,⟨bp,g,cap,rfl,h4X,h4B,hcl,hg,tD h4X hcl (by omega) (by simp;omega)⟩,⟨Off.refl _ _,fun h=>h⟩⟩;clear h4X hcl;(first | (go_simp;done) | (go_simp;with_reducible rfl)))
 simp only [Act.put,Known.val,aA,aE,aF]
 refine Four.Grow.gives rfl (fun wg hbg hdg => ?_) ?_
 focus ((have h10:GrB wv nb (.slice ap np cp) (.int .i64 ar) (.int .i64 ce) (.slice (some ⟨bb,bo,none⟩) nb cb) (ν 10) wg:=hdg 10 (by kernel_rfl));(obtain ⟨bp,g,cap,e10,k1,k2,k3,k4,k5⟩:=h10.ex);clear h10 hdg;simp only [e10];refine ⟨.pointer (some ⟨wg.heap.size,0,none⟩),wg.alloc (.cells #[.slice ap np cp,.int .i64 ar,.int .i64 ce,.slice (some ⟨bb,bo,none⟩) nb cb,.slice (some ⟨bp,0,none⟩) nb nb,.slice none 0 0,.slice (some ⟨g,0,none⟩) nb cap] 135), ?_,⟨wg.heap.size,bp,g,cap,rfl,Box.new _ _ _,k1.alloc _,k2,k3.later ((Below.refl _ _).alloc (aC _) _),k4,k5,k1.lt,k3.lt⟩,⟨Off.alloc _ _ _,fun h=>h⟩⟩;clear k1 k3 hbg;(first | (go_simp;done) | (go_simp;with_reducible rfl)))
 simp only [Act.put,Known.val,aA,aE,aF]
 refine Four.Grow.made (T := ?_) rfl rfl (fun wg hbg hdg => ?_) ?_
 rotate_left
 focus ((obtain ⟨lg0,cg0,fg0⟩:=B1.out.off hbg.off (fun ⟨_,h⟩=>h.elim));clear hbg hdg;first | (go_simp;done) | (go_simp;with_reducible rfl))
 simp only [Act.put,Known.val,aA,aE,aF]
 intro wg hb hf bk
 obtain ⟨cd,az,di,dr⟩:=hf 4 (by omega)
 have cx:cd ≠ w.heap.size:=fun e=>by have:=ae;omega
 have nB1BP:w.heap.size ≠ cd:=fun e=>cx e.symm
 obtain ⟨ca,ax,dk,cw⟩:=hf 5 (by omega)
 have cL:ca ≠ w.heap.size:=fun e=>by have:=ae;omega
 have nB1BQ:w.heap.size ≠ ca:=fun e=>cL e.symm
 obtain ⟨aa,aw,db,de⟩:=hf 12 (by omega)
 have dc:aa ≠ w.heap.size:=fun e=>by have:=ae;omega
 have nB1GV:w.heap.size ≠ aa:=fun e=>dc e.symm
 have nBPBQ:cd ≠ ca:=fun e=>bk 4 5 (by omega) (by omega) (by omega) rfl rfl (by rw [az,ax,e])
 have nBPGV:cd ≠ aa:=fun e=>bk 4 12 (by omega) (by omega) (by omega) rfl rfl (by rw [az,aw,e])
 have nBQBP:ca ≠ cd:=fun e=>bk 5 4 (by omega) (by omega) (by omega) rfl rfl (by rw [ax,az,e])
 have nBQGV:ca ≠ aa:=fun e=>bk 5 12 (by omega) (by omega) (by omega) rfl rfl (by rw [ax,aw,e])
 have nGVBP:aa ≠ cd:=fun e=>bk 12 4 (by omega) (by omega) (by omega) rfl rfl (by rw [aw,az,e])
 have nGVBQ:aa ≠ ca:=fun e=>bk 12 5 (by omega) (by omega) (by omega) rfl rfl (by rw [aw,ax,e])
 simp only [az,ax,aw]
 clear az ax aw
 clear bk
 have ie:=bA HW.out.size di
 clear di
 have jj:=bA HW.out.size dk
 clear dk
 have it:=bA HW.out.size db
 clear db
 clear ae ao an
 replace B1:=h! (B1.out.off hb.1 (fun ⟨_,h⟩=>h.elim))
 replace HW:=h! (HW.out.trans (hb.1.below HW.out.size (fun _ _ ⟨_,h⟩=>h.elim)))
 have BP:=h! dr
 clear dr
 have BQ:=h! cw
 clear cw
 have GV:=h! de
 clear de
 obtain ⟨ae,ao,an⟩:=B1.out
 obtain ⟨hM,ig,ja⟩:=BP.out
 obtain ⟨jl,hA,ji⟩:=BQ.out
 obtain ⟨af,ai,aj⟩:=GV.out
 simp only [bH,Nat.reduceAdd]
 have hS:GrP wv nb (.slice ap np cp) (.int .i64 ar) (.int .i64 ce) (.slice (some ⟨bb,bo,none⟩) nb cb) (ν 11) wg:=hf 11 (by omega)
 clear hf jk
 clear hM ig ja BP
 clear jl hA ji BQ
 obtain ⟨bg,bp,lg,am,hl,kG,kP,hU,kL,hH,fp,hG,jx⟩:=hS.ex
 have dq:aa ≠ bg:=GV.out.ne kG 1 (by simp)
 have nbgGV:bg ≠ aa:=Ne.symm dq
 have ez:bp ≠ aa:=kP.ne GV.out 0 (by rw [aDX fa];simp)
 have cn:lg ≠ aa:=kL.ne GV.out (by simp;omega) (u:=.pointer none) rfl (by simp)
 have nB1bg:w.heap.size ≠ bg:=fun e=>by omega
 have nB1bp:w.heap.size ≠ bp:=fun e=>by omega
 have nB1lg:w.heap.size ≠ lg:=fun e=>by omega
 have BG:=h! kG
 have ah:=h! (kL.other (p:=⟨aa,0,none⟩) (.pointer (some ⟨bg,0,none⟩)) cn)
 have ad:Hid (Bag _ w.heap.size [w.heap.size,bg,aa,lg] bp 3 _ (jU f 0 0)):=h! (by
  rw [tC, <-aq.out]
  exact (Bag.empty (base:=w.heap.size) (bs:=[w.heap.size,bg,aa,lg]) (T:=3) kP).other (p:=⟨aa,0,none⟩) (.pointer (some ⟨bg,0,none⟩)) (by simp) ez)
 simp only [hl]
 have br:Hid (w.heap.size < bg/\w.heap.size < bp/\w.heap.size < lg/\w.heap.size < aa/\bp < bg/\lg < bg):=h! (by omega)
 generalize ν 9=v9 at *
 generalize ν 10=v10 at *
 clear hl hS kG kP kL hU hH hG jx hZ
 obtain ⟨ae,ao,an⟩:=B1.out
 obtain ⟨af,ai,aj⟩:=GV.out
 obtain ⟨ag,ak,al⟩:=BG.out
 go_upto_region 2 with (fail)
 clear ae ao an af ai aj ag ak al
 have ek:=(Only.set wg (aa) 0 (.pointer (some ⟨bg,0,none⟩)))
 replace B1:=h! (B1.out.only ek (by first | assumption | (simp;done) | omega))
 replace BG:=h! (BG.out.only ek (by first | assumption | (simp;done) | omega))
 replace HW:=h! (ek.2.2 HW.out (by first | assumption | omega | (have:=HW.out.size;omega) | (simp;done) | (simp;omega)))
 replace GV:=h! (Box.to (A':=#[(.pointer (some ⟨bg,0,none⟩))]) (GV.out.set 0 (.pointer (some ⟨bg,0,none⟩))) (by first | rfl | simp))
 clear ek
 generalize (wg.setCell ⟨aa,0,none⟩ (.pointer (some ⟨bg,0,none⟩)))=w2 at *
 obtain ⟨ae,ao,an⟩:=B1.out
 obtain ⟨af,ai,aj⟩:=GV.out
 obtain ⟨ag,ak,al⟩:=BG.out
 clear it ie jj
 go_wp2_with fail
 go_loopw [27] (fun i wr => ∃ (j:Nat) (vs:List Value),j <= nb/\i = .int .i64 j/\Bag wr w.heap.size [w.heap.size,bg,aa,lg] bp 3 vs (jU f j 0)/\Cells wr (.slice (some ⟨lg,0,none⟩) nb am) lg (List.replicate nb (-1))/\Below w.heap.size w wr/\Box wr w.heap.size #[.slice ap np cp,.int .i64 ar,.int .i64 ce,.slice (some ⟨bb,bo,none⟩) nb cb]/\Box wr aa #[.pointer (some ⟨bg,0,none⟩)]/\Box wr bg #[.slice ap np cp,.int .i64 ar,.int .i64 ce,.slice (some ⟨bb,bo,none⟩) nb cb,.slice (some ⟨bp,0,none⟩) nb nb,.slice none 0 0,.slice (some ⟨lg,0,none⟩) nb am]) (fun i _=>nb - (intOf i).toNat)
 case atStart=>exact ⟨0,_,aH _,rfl,ad.out,ah.out,HW.out,B1.out,GV.out,BG.out⟩
 obtain ⟨j,vs,hj,rfl,hR,hL,hW,h1,h2,h3⟩:=hrel
 clear ae ao an af ai aj ag ak al
 replace ad:=h! hR
 replace ah:=h! hL
 replace HW:=h! hW
 replace B1:=h! h1
 replace GV:=h! h2
 replace BG:=h! h3
 clear hR hL hW h1 h2 h3
 generalize wr=w3 at *
 obtain ⟨ae,ao,an⟩:=B1.out
 obtain ⟨af,ai,aj⟩:=GV.out
 obtain ⟨ag,ak,al⟩:=BG.out
 by_cases hlt:j < nb
 ·obtain ⟨x,eh⟩ : ∃ x,f.blocks[j]? = some x:=⟨_,aB (by have:=aq.out;omega)⟩
  obtain ⟨dp,cq,cF,dj,cG,bO,hC⟩:=gm.out j x eh
  have jb:=h! hC.to
  obtain ⟨ta,tc,er,ff,jf,jv,ei,fx,fM⟩:=hC.to.parts
  cases jf
  obtain ⟨k0,k1,k2,k3,k4,k5,q1,q2,q3,q4,q5,q6⟩:=hC.below HW.out fm
  clear q1 q2 q3 q4 q5 q6 hC
  obtain ⟨tl,ep⟩ : ∃ tl,tl=x.term.to.length:=⟨_,rfl⟩
  rw [<-ep] at k4 jv
  have im:=h! fx
  have jg:=h! fM
  have dg:=h! ep
  have fg:=h! (rR eh)
  have gs:=h! (fs.out j x eh)
  clear fx fM ep eh
  replace ad:=h! ((ad.out.more (aC _)).alloc (.cells #[.slice dp x.phis.length dj,.slice cq x.code.length cG,.int .i64 x.term.op,.int .i64 x.term.val,.slice cF tl bO,.int .i64 x.term.n] 63))
  have bl:Hid (bp < w3.heap.size/\w.heap.size < w3.heap.size/\bg < w3.heap.size/\aa < w3.heap.size):=h! ⟨by have:=ad.out.box.lt;have:=br.out;omega,by omega,by omega,by omega⟩
  go_upto_region 5 with (fail)
  have dn:w3.heap.size ≠ w.heap.size:=fun e=>by have:=ae;omega
  have nB1B5:w.heap.size ≠ w3.heap.size:=fun e=>dn e.symm
  have df:w3.heap.size ≠ aa:=fun e=>by have:=af;omega
  have nGVB5:aa ≠ w3.heap.size:=fun e=>df e.symm
  have dv:w3.heap.size ≠ bg:=fun e=>by have:=ag;omega
  have nBGB5:bg ≠ w3.heap.size:=fun e=>dv e.symm
  clear ae ao an af ai aj ag ak al
  have ac:=(Below.refl w3.heap.size w3).alloc (aC _) (.cells #[.slice dp x.phis.length dj,.slice cq x.code.length cG,.int .i64 x.term.op,.int .i64 x.term.val,.slice cF tl bO,.int .i64 x.term.n] 63)
  replace B1:=h! (B1.out.later ac)
  replace GV:=h! (GV.out.later ac)
  replace BG:=h! (BG.out.later ac)
  replace ah:=h! (ah.out.later ac)
  replace HW:=h! (HW.out.trans (ac.mono HW.out.size))
  clear ac
  have B5:=h! (Box.new w3 #[.slice dp x.phis.length dj,.slice cq x.code.length cG,.int .i64 x.term.op,.int .i64 x.term.val,.slice cF tl bO,.int .i64 x.term.n] 63)
  generalize w3.alloc (.cells #[.slice dp x.phis.length dj,.slice cq x.code.length cG,.int .i64 x.term.op,.int .i64 x.term.val,.slice cF tl bO,.int .i64 x.term.n] 63)=w4 at *
  obtain ⟨ae,ao,an⟩:=B1.out
  obtain ⟨af,ai,aj⟩:=GV.out
  obtain ⟨ag,ak,al⟩:=BG.out
  obtain ⟨bw,cf,cg⟩:=B5.out
  clear k0 k1 k2 k3 k4 k5
  have ed:Hid (w3.heap.size ≠ bp/\w.heap.size ≠ bp/\aa ≠ bp/\bg ≠ bp):=h! (by have:=bl.out;have:=br.out;omega)
  go_wp2_with fail
  go_loopw [36] (fun i wr => ∃ (k:Nat) (vs:List Value),k <= tl/\i = .int .i64 k/\Bag wr w.heap.size [w3.heap.size,w.heap.size,bg,aa,lg] bp 3 vs (jU f j k)/\Cells wr (.slice (some ⟨lg,0,none⟩) nb am) lg (List.replicate nb (-1))/\Below w.heap.size w wr/\Box wr w.heap.size #[.slice ap np cp,.int .i64 ar,.int .i64 ce,.slice (some ⟨bb,bo,none⟩) nb cb]/\Box wr aa #[.pointer (some ⟨bg,0,none⟩)]/\Box wr bg #[.slice ap np cp,.int .i64 ar,.int .i64 ce,.slice (some ⟨bb,bo,none⟩) nb cb,.slice (some ⟨bp,0,none⟩) nb nb,.slice none 0 0,.slice (some ⟨lg,0,none⟩) nb am]/\Box wr w3.heap.size #[.slice dp x.phis.length dj,.slice cq x.code.length cG,.int .i64 x.term.op,.int .i64 x.term.val,.slice cF tl bO,.int .i64 x.term.n]) (fun i _=>tl - (intOf i).toNat)
  case atStart=>exact ⟨0,_,aH _,rfl,ad.out,ah.out,HW.out,B1.out,GV.out,BG.out,B5.out⟩
  obtain ⟨k,vs,hk,rfl,hR,hL,hW,h1,h2,h3,h5⟩:=hrel
  clear ae ao an af ai aj ag ak al bw cf cg
  replace ad:=h! hR
  replace ah:=h! hL
  replace HW:=h! hW
  replace B1:=h! h1
  replace GV:=h! h2
  replace BG:=h! h3
  replace B5:=h! h5
  clear hR hL hW h1 h2 h3 h5
  generalize wr=w5 at *
  obtain ⟨ae,ao,an⟩:=B1.out
  obtain ⟨af,ai,aj⟩:=GV.out
  obtain ⟨ag,ak,al⟩:=BG.out
  obtain ⟨bw,cf,cg⟩:=B5.out
  by_cases hltk:k < tl
  ·obtain ⟨rfl,jo⟩:=im.out (by have:=dg.out;omega)
   obtain ⟨t,ht⟩ : ∃ t,t=x.term.to.getD k 0:=⟨_,rfl⟩
   have ei:x.term.to[k]? = some t:=by rw [ht];exact fI _ _ (by have:=dg.out;omega)
   have hF:=gs.out t (aG ei)
   obtain ⟨tn,rfl⟩ : ∃ tn:Nat,t=(tn:Int):=⟨t.toNat,by omega⟩
   have htn:tn < nb:=by have:=aq.out;omega
   have hP:w5.cell? ⟨er,ff+k,none⟩=some (.int .i64 tn):=by
    rw [HW.out.cell (p:=⟨er,ff+k,none⟩) jo,jg.out k (by have:=dg.out;omega), <-ht]
   have gp:Hid ((toB f j)[k]? = some tn):=h! (by rw [fg.out,aO,ei];simp)
   have ix:Hid (Ints w5 (.slice (some ⟨er,ff,none⟩) k bO) (x.term.to.take k)):=h! ((jb.out.below HW.out).take (by have:=dg.out;omega))
   obtain ⟨cc,ev⟩ : ∃ cc,cc=(x.term.to.take k).contains (tn:Int):=⟨_,rfl⟩
   have gj:Hid (((toB f j).take k).contains tn=cc):=h! (by
    rw [ev,mP (fun y hy=>by have:=gs.out y (cJ hy);omega),fg.out,List.map_take])
   have gc:=h! (nT (x:=(tn:Int)) ix.out)
   rw [<-ev] at gc
   clear ht ei hF ev
   go_wp2_with fail
   refine gc.out.mono ?_
   rintro e w6 ⟨rfl,rfl⟩
   clear hP
   have jh:Hid (bp < w5.heap.size/\w3.heap.size < w5.heap.size/\w.heap.size < w5.heap.size/\bg < w5.heap.size/\aa < w5.heap.size/\lg < w5.heap.size):=h! ⟨ad.out.box.lt,B5.out.lt,B1.out.lt,BG.out.lt,GV.out.lt,ah.out.lt⟩
   cases cc
   ·obtain ⟨v,ir,jp,ef⟩:=ad.out.at (jX (f:=f) (i:=j) (k:=k) (show tn < f.blocks.length by have:=aq.out;omega))
    clear jp
    obtain ⟨n,hn⟩ : ∃ n,n=(natI (fX f j k tn)).length:=⟨_,rfl⟩
    have hnle:n <= j+1:=by rw [hn,fE];exact nZ f j k tn
    rw [<-hn] at ef
    have HN:=h! hn
    have HO:=h! ef
    obtain ⟨va,vc,rfl⟩:=ef.form
    obtain ⟨X,hX⟩ : ∃ X,X=((Value.slice va n vc).ownBlock).toList:=⟨_,rfl⟩
    have ew:∀ k,(Value.slice va n vc).ownBlock=some k ↔ k ∈ X:=fun k=>by rw [hX];simp [eq_comm]
    have gf:=h! ew
    have ih:lg ∉ X:=fun hm=>HO.out.free _ ((ew lg).2 hm) (by simp)
    obtain ⟨XF,dd,fz⟩:=uK 14 (fun q=>(Value.slice va n vc).ownBlock=some q)
    have HX:=h! (And.intro dd fz)
    have ee:Hid (∀ q,Four.All XF q -> (Value.slice va n vc).ownBlock=some q):=h! (fun q ⟨i,h⟩=>by obtain rfl:=HX.out.2 i q h;exact (HX.out.1 q).1 h)
    have xW:∀ i q,XF i q -> q < w5.heap.size:=fun i q h=>(HO.out.lt (ee.out q ⟨i,h⟩)).1
    have xI:∀ w w' : World,True -> Below w.heap.size w w' -> True:=fun _ _ _ _=>trivial
    have jn:True:=trivial
    have cm:∀ q,q < w5.heap.size -> Four.All XF q -> w.heap.size <= q:=fun q _ h=>(HO.out.lt (ee.out q h)).2
    have ay:∀ y ∈ [bp,w3.heap.size,w.heap.size,bg,aa,lg], ¬ Four.All XF y:=fun y hy h=>HO.out.free _ (ee.out y h) hy
    have ej:¬ Four.All XF bp:=ay _ (by simp)
    have eb:¬ Four.All XF w3.heap.size:=ay _ (by simp)
    have dz:¬ Four.All XF w.heap.size:=ay _ (by simp)
    have ec:¬ Four.All XF bg:=ay _ (by simp)
    have em:¬ Four.All XF aa:=ay _ (by simp)
    clear hX ew ay hn ef dd fz
    clear ae ao an af ai aj ag ak al bw cf cg
    have BR:=h! ad.out.box
    obtain ⟨ae,ao,an⟩:=B1.out
    obtain ⟨af,ai,aj⟩:=GV.out
    obtain ⟨ag,ak,al⟩:=BG.out
    obtain ⟨bw,cf,cg⟩:=B5.out
    obtain ⟨fd,hd,gh⟩:=BR.out
    go_upto_region 9 with (fail)
    refine Four.wp_region_grow (XF:=XF) (I:=(fun _=>True)) 16 (fun ν kz=>match kz with | 13=>.made w5.heap.size (fun b=>.slice (some ⟨b,0,none⟩) 1 1) #[.int .i64 j] | 14=>.holds (fun u w'=>AppS w5 w.heap.size [bp,w3.heap.size,w.heap.size,bg,aa,lg] 3 1 (.slice va n vc) (n+1) ((natI (fX f j k tn)).map (.int .i64) ++ [.int .i64 j]) u w') | _=>.plain) (by kernel_rfl) (by kernel_rfl) ?_ ?_ xW xI jn ?_ (fun ν => ?_)
    ·(intro ν k;(try dsimp only);split <;> first | exact True.intro | (intro u w1 w2 hu hb;exact hu.later (hb.below (Nat.le_refl _) (fun q _ ⟨j,hj,h⟩=>absurd (HX.out.2 j q h) hj))))
    ·(intro ν ν' k h;first | rfl | ((try dsimp only);split <;> first | rfl))
    ·(intro ν j B mk A h;(try dsimp only at h);split at h <;> first | (cases h;exact Nat.le_refl _) | cases h)
    simp only [aP,aU,aS,aX]
    iterate 13 (refine Four.Grow.val (v := ?_) rfl rfl (fun wg hbg hdg => ?_) ?_;rotate_left;(focus ((obtain ⟨lg0,cg0,fg0⟩:=B1.out.off hbg.off dz);(obtain ⟨fF,fo,gq⟩:=GV.out.off hbg.off em);(obtain ⟨hs,gw,gx⟩:=BG.out.off hbg.off ec);(obtain ⟨gk,fB,hr⟩:=B5.out.off hbg.off eb);(obtain ⟨hw,gb,fl⟩:=BR.out.off hbg.off ej);clear hbg hdg;first | (go_simp;done) | (go_simp;with_reducible rfl)));simp only [Act.put,aA,aE,aF])
    refine Four.Grow.made (T := ?_) rfl rfl (fun wg hbg hdg => ?_) ?_
    rotate_left
    focus ((obtain ⟨lg0,cg0,fg0⟩:=B1.out.off hbg.off dz);(obtain ⟨fF,fo,gq⟩:=GV.out.off hbg.off em);(obtain ⟨hs,gw,gx⟩:=BG.out.off hbg.off ec);(obtain ⟨gk,fB,hr⟩:=B5.out.off hbg.off eb);(obtain ⟨hw,gb,fl⟩:=BR.out.off hbg.off ej);clear hbg hdg;first | (go_simp;done) | (go_simp;with_reducible rfl))
    simp only [Act.put,Known.val,aA,aE,aF]
    refine Four.Grow.gives rfl (fun wg hbg hdg => ?_) ?_
    focus ((obtain ⟨bn,e6,da,hV⟩:=hdg 13 (by kernel_rfl);have gv:Below w5.heap.size w5 wg:=hbg.1.below (aC _) (fun q _ ⟨j,hj,_,h⟩=>absurd (HX.out.2 j q h) hj);have eo:=gv.size;simp only [e6];exact pO (.tmp 60) (.tmp 62) 22 3 rfl nK rfl rfl (HO.out.later gv) (Row.of_box (n:=1) (size:=1) hV rfl (by omega)) (by simp [Value.oneCell']) (by unfold maxLen;omega) (by omega) (bA HW.out.size eo) (fun y hy=>aR (by have h9:=bl.out;have h8:=jh.out;simp at hy;omega) eo) eo (fun q hq=>(HX.out.1 q).2 hq)))
    simp only [Act.put,Known.val,aA,aE,aF]
    refine Four.Grow.val (v := ?_) rfl rfl (fun wg hbg hdg => ?_) ?_
    rotate_left
    focus ((obtain ⟨lg0,cg0,fg0⟩:=B1.out.off hbg.off dz);(obtain ⟨fF,fo,gq⟩:=GV.out.off hbg.off em);(obtain ⟨hs,gw,gx⟩:=BG.out.off hbg.off ec);(obtain ⟨gk,fB,hr⟩:=B5.out.off hbg.off eb);(obtain ⟨hw,gb,fl⟩:=BR.out.off hbg.off ej);clear hbg hdg;first | (go_simp;done) | (go_simp;with_reducible rfl))
    simp only [Act.put,aA,aE,aF]
    intro wg hb hf bk
    obtain ⟨bd,cj,dy,cv⟩:=hf 13 (by omega)
    have ci:bd ≠ w.heap.size:=fun e=>by have:=ae;omega
    have nB1BN:w.heap.size ≠ bd:=fun e=>ci e.symm
    have cy:bd ≠ aa:=fun e=>by have:=af;omega
    have nGVBN:aa ≠ bd:=fun e=>cy e.symm
    have cl:bd ≠ bg:=fun e=>by have:=ag;omega
    have nBGBN:bg ≠ bd:=fun e=>cl e.symm
    have ck:bd ≠ w3.heap.size:=fun e=>by have:=bw;omega
    have nB5BN:w3.heap.size ≠ bd:=fun e=>ck e.symm
    have dl:bd ≠ bp:=fun e=>by have:=fd;omega
    have nBRBN:bp ≠ bd:=fun e=>dl e.symm
    simp only [cj]
    clear cj
    clear bk
    have gBN:=bA HW.out.size dy
    clear dy
    clear ae ao an af ai aj ag ak al bw cf cg fd hd gh
    replace B1:=h! (B1.out.off hb.1 dz)
    replace GV:=h! (GV.out.off hb.1 em)
    replace BG:=h! (BG.out.off hb.1 ec)
    replace B5:=h! (B5.out.off hb.1 eb)
    replace BR:=h! (BR.out.off hb.1 ej)
    replace HW:=h! (HW.out.trans (hb.1.below HW.out.size cm))
    have BN:=h! cv
    clear cv
    obtain ⟨ae,ao,an⟩:=B1.out
    obtain ⟨af,ai,aj⟩:=GV.out
    obtain ⟨ag,ak,al⟩:=BG.out
    obtain ⟨bw,cf,cg⟩:=B5.out
    obtain ⟨fd,hd,gh⟩:=BR.out
    obtain ⟨lBN,cBN,fBN⟩:=BN.out
    simp only [bH,Nat.reduceAdd]
    have hS:AppS w5 w.heap.size [bp,w3.heap.size,w.heap.size,bg,aa,lg] 3 1 (.slice va n vc) (n+1) ((natI (fX f j k tn)).map (.int .i64) ++ [.int .i64 j]) (ν 14) wg:=hf 14 (by omega)
    clear hf
    obtain ⟨eg,ba⟩:=hS
    obtain ⟨bf,be,e7⟩:=eg.form
    rw [e7] at eg ba
    simp only [e7]
    have bz:Turn X w5 wg:=⟨hb.1.os,hb.1.tape,hb.1.output,hb.1.size,fun k hk hn=>hb.1.block k hk (fun h=>hn ((gf.out k).1 (ee.out k h)))⟩
    have gy:Kept [] (.slice va n vc) (.slice bf (n+1) be) w5 wg:=⟨bz.os,bz.tape,bz.output,bz.size,fun k hk _ hn=>bz.block k hk (fun hm=>hn ((gf.out k).2 hm)),ba⟩
    have hD:Hid (Bag (wg.setCell ⟨bp,tn,none⟩ (.slice bf (n+1) be)) w.heap.size [w3.heap.size,w.heap.size,bg,aa,lg] bp 3 (vs.set tn (.slice bf (n+1) be)) (jU f j (k+1))):=h! (by
     rw [<-zN gp.out gj.out (by have:=aq.out;omega)]
     refine ad.out.put ir (jX (by have:=aq.out;omega)) ?_ gy
     have e9:natI (fX f j k tn ++ [j])=natI (fX f j k tn) ++ [(j:Int)]:=by simp [natI]
     rw [e9,aI,bD, <-HN.out]
     exact eg)
    have jq:=h! ((ah.out.turn bz ih).other (p:=⟨bp,tn,none⟩) (.slice bf (n+1) be) (Ne.symm fp))
    have js:=h! (HW.out.setCell (p:=⟨bp,tn,none⟩) (by have:=br.out;simp only;omega) (.slice bf (n+1) be))
    have jt:=h! (B1.out.other (p:=⟨bp,tn,none⟩) (.slice bf (n+1) be) ed.out.2.1)
    have jc:=h! (GV.out.other (p:=⟨bp,tn,none⟩) (.slice bf (n+1) be) ed.out.2.2.1)
    have iG:=h! (BG.out.other (p:=⟨bp,tn,none⟩) (.slice bf (n+1) be) ed.out.2.2.2)
    have hN:=h! (B5.out.other (p:=⟨bp,tn,none⟩) (.slice bf (n+1) be) ed.out.1)
    clear eg ba gy hb e7 BN
    go_wp2
    go_roundw
    case rel=>exact ⟨k+1,_,hltk,by go_num,hD.out,jq.out,js.out,jt.out,jc.out,iG.out,hN.out⟩
    simp [intOf];omega
   go_wp2
   go_roundw
   case rel=>exact ⟨k+1,vs,hltk,by go_num,by rw [zO gp.out gj.out];exact ad.out,ah.out,HW.out,B1.out,GV.out,BG.out,B5.out⟩
   simp [intOf];omega
  obtain rfl:k=tl:=by omega
  have iy:Hid (jU f j k=jU f (j+1) 0):=h! (by rw [<-wL,fg.out,bI, <-dg.out])
  go_wp2
  go_roundw
  case rel=>exact ⟨j+1,vs,hlt,by go_num,by rw [<-iy.out];exact ad.out.less (by simp),ah.out,HW.out,B1.out,GV.out,BG.out⟩
  simp [intOf];omega
 have fv:j=nb:=by omega
 replace ad:Hid (Bag w3 w.heap.size [w3.heap.size,w.heap.size,bg,aa,lg] bp 3 vs (gT f)):=h! (by have:=ad.out.more (aC _);unfold gT;rw [<-aq.out, <-fv];exact this)
 have et:=run_make_row' (P:=Tryz.prog) 124 4 (.bool false) 1 Tryz.underlying124 qC rfl .i64 .i64 nb (by omega) (by omega)
 have bl:Hid (bp < w3.heap.size/\w.heap.size < w3.heap.size/\bg < w3.heap.size/\aa < w3.heap.size/\lg < w3.heap.size):=h! ⟨by have:=ad.out.box.lt;omega,by omega,by omega,by omega,ah.out.lt⟩
 clear hj fv
 go_upto_region 15 with (fail)
 have dt:w3.heap.size ≠ w.heap.size:=fun e=>by have:=ae;omega
 have nB1FL:w.heap.size ≠ w3.heap.size:=fun e=>dt e.symm
 have cM:w3.heap.size ≠ aa:=fun e=>by have:=af;omega
 have nGVFL:aa ≠ w3.heap.size:=fun e=>cM e.symm
 have cs:w3.heap.size ≠ bg:=fun e=>by have:=ag;omega
 have nBGFL:bg ≠ w3.heap.size:=fun e=>cs e.symm
 have dw:w3.heap.size+1 ≠ w.heap.size:=fun e=>by have:=ae;omega
 have nB1BB:w.heap.size ≠ w3.heap.size+1:=fun e=>dw e.symm
 have ct:w3.heap.size+1 ≠ aa:=fun e=>by have:=af;omega
 have nGVBB:aa ≠ w3.heap.size+1:=fun e=>ct e.symm
 have co:w3.heap.size+1 ≠ bg:=fun e=>by have:=ag;omega
 have nBGBB:bg ≠ w3.heap.size+1:=fun e=>co e.symm
 have nBBFL:w3.heap.size+1 ≠ w3.heap.size:=by omega
 have nFLBB:w3.heap.size ≠ w3.heap.size+1:=by omega
 have dm:w3.heap.size+1+1 ≠ w.heap.size:=fun e=>by have:=ae;omega
 have nB1BV:w.heap.size ≠ w3.heap.size+1+1:=fun e=>dm e.symm
 have dx:w3.heap.size+1+1 ≠ aa:=fun e=>by have:=af;omega
 have nGVBV:aa ≠ w3.heap.size+1+1:=fun e=>dx e.symm
 have ch:w3.heap.size+1+1 ≠ bg:=fun e=>by have:=ag;omega
 have nBGBV:bg ≠ w3.heap.size+1+1:=fun e=>ch e.symm
 have nBVFL:w3.heap.size+1+1 ≠ w3.heap.size:=by omega
 have nFLBV:w3.heap.size ≠ w3.heap.size+1+1:=by omega
 have nBVBB:w3.heap.size+1+1 ≠ w3.heap.size+1:=by omega
 have nBBBV:w3.heap.size+1 ≠ w3.heap.size+1+1:=by omega
 clear ae ao an af ai aj ag ak al
 have ac:=(Below.refl w3.heap.size w3).alloc (aC _) (.cells (madeCells #[.bool false] nb) 4)
 replace B1:=h! (B1.out.later ac)
 replace GV:=h! (GV.out.later ac)
 replace BG:=h! (BG.out.later ac)
 replace ad:=h! (ad.out.later ac)
 replace ah:=h! (ah.out.later ac)
 replace HW:=h! (HW.out.trans (ac.mono HW.out.size))
 clear ac
 have FL:=h! (Box.new w3 (madeCells #[.bool false] nb) 4)
 have bv:(w3.alloc (.cells (madeCells #[.bool false] nb) 4)).heap.size=w3.heap.size+1:=World.size_alloc _ _
 generalize w3.alloc (.cells (madeCells #[.bool false] nb) 4)=bc at *
 have ac:=(Below.refl bc.heap.size bc).alloc (aC _) (.cells #[.slice (some ⟨w3.heap.size,0,none⟩) nb nb] 124)
 replace B1:=h! (B1.out.later ac)
 replace GV:=h! (GV.out.later ac)
 replace BG:=h! (BG.out.later ac)
 replace FL:=h! (FL.out.later ac)
 replace ad:=h! (ad.out.later ac)
 replace ah:=h! (ah.out.later ac)
 replace HW:=h! (HW.out.trans (ac.mono HW.out.size))
 clear ac
 have BB:=h! (Box.new bc #[.slice (some ⟨w3.heap.size,0,none⟩) nb nb] 124)
 rw [bv] at BB
 have cz:(bc.alloc (.cells #[.slice (some ⟨w3.heap.size,0,none⟩) nb nb] 124)).heap.size=w3.heap.size+1+1:=by rw [World.size_alloc,bv]
 clear bv
 generalize bc.alloc (.cells #[.slice (some ⟨w3.heap.size,0,none⟩) nb nb] 124)=bh at *
 have ac:=(Below.refl bh.heap.size bh).alloc (aC _) (.cells #[.func (.func 128) #[] #[.pointer (some ⟨w3.heap.size+1,0,none⟩),.pointer (some ⟨w.heap.size,0,none⟩),.pointer (some ⟨w3.heap.size+1+1,0,none⟩),.pointer (some ⟨aa,0,none⟩)]] 193)
 replace B1:=h! (B1.out.later ac)
 replace GV:=h! (GV.out.later ac)
 replace BG:=h! (BG.out.later ac)
 replace FL:=h! (FL.out.later ac)
 replace BB:=h! (BB.out.later ac)
 replace ad:=h! (ad.out.later ac)
 replace ah:=h! (ah.out.later ac)
 replace HW:=h! (HW.out.trans (ac.mono HW.out.size))
 clear ac
 have BV:=h! (Box.new bh #[.func (.func 128) #[] #[.pointer (some ⟨w3.heap.size+1,0,none⟩),.pointer (some ⟨w.heap.size,0,none⟩),.pointer (some ⟨w3.heap.size+1+1,0,none⟩),.pointer (some ⟨aa,0,none⟩)]] 193)
 rw [cz] at BV
 clear cz
 generalize bh.alloc (.cells #[.func (.func 128) #[] #[.pointer (some ⟨w3.heap.size+1,0,none⟩),.pointer (some ⟨w.heap.size,0,none⟩),.pointer (some ⟨w3.heap.size+1+1,0,none⟩),.pointer (some ⟨aa,0,none⟩)]] 193)=w4 at *
 obtain ⟨ae,ao,an⟩:=B1.out
 obtain ⟨af,ai,aj⟩:=GV.out
 obtain ⟨ag,ak,al⟩:=BG.out
 obtain ⟨iz,hT,ij⟩:=FL.out
 obtain ⟨hY,iv,jw⟩:=BB.out
 obtain ⟨jm,il,ii⟩:=BV.out
 clear et
 have hh:(⟨w3.heap.size+1,w3.heap.size,w.heap.size,w3.heap.size+1+1,aa,bg⟩ : VisN).list.Nodup:=by
  simp only [VisN.list,eE,bR,dV,or_false,not_or,not_false_eq_true,List.nodup_nil,and_true]
  have:=bl.out
  omega
 have gB:Hid (VisI ⟨w3.heap.size+1,w3.heap.size,w.heap.size,w3.heap.size+1+1,aa,bg⟩ w.heap.size nb #[.slice ap np cp,.int .i64 ar,.int .i64 ce,.slice (some ⟨bb,bo,none⟩) nb cb] (.slice (some ⟨bp,0,none⟩) nb nb) (.slice (some ⟨lg,0,none⟩) nb am) w4 (List.replicate nb false) [] (.slice none 0 0)) :=
  h! ⟨BB.out,by have:=FL.out;rwa [lW] at this,B1.out,BV.out,GV.out,by simpa using BG.out,Own.nil,by simp,hh⟩
 clear hh
 have gz:Hid (Calls Tryz.prog 128 #[.int .i64 0,.pointer (some ⟨w3.heap.size+1,0,none⟩),.pointer (some ⟨w.heap.size,0,none⟩),.pointer (some ⟨w3.heap.size+1+1,0,none⟩),.pointer (some ⟨aa,0,none⟩)] w4
   (VisR f ⟨w3.heap.size+1,w3.heap.size,w.heap.size,w3.heap.size+1+1,aa,bg⟩ w.heap.size nb #[.slice ap np cp,.int .i64 ar,.int .i64 ce,.slice (some ⟨bb,bo,none⟩) nb cb] (.slice (some ⟨bp,0,none⟩) nb nb) (.slice (some ⟨lg,0,none⟩) nb am) w w4 (List.replicate nb false) [] (.slice none 0 0) 0)):=h!
  (aB5 aq.out gr ik fm ga gm.out (fun j x h t ht=>by rw [aq.out];exact fs.out j x h t ht) (by intro b hb;simp [VisN.list] at hb;have:=bl.out;have:=br.out;omega) nb w4 (List.replicate nb false) [] (.slice none 0 0) 0 (by rw [List.count_replicate_self];exact aC _) (by rw [List.count_replicate_self];simp only [cI];omega) gB.out HW.out (by rw [List.getElem?_replicate,if_pos (by omega)]))
 have hx:=h! (⟨by have:=bl.out;omega,by have:=bl.out;omega,ah.out.lt,ad.out.box.lt,HW.out.size⟩ : w3.heap.size < w4.heap.size/\bg < w4.heap.size/\lg < w4.heap.size/\bp < w4.heap.size/\w.heap.size <= w4.heap.size)
 have eg1:∀ (args:Array Value) (w:World),(callFunc 128 args).run Tryz.prog w = .ok (.enter 128 args) w:=rI
 go_upto_region 16 with (go_at_fn 128;refine gz.out.mono ?_;rintro e w5 ⟨rfl,s',d',ov',fq,fG,hK,ft⟩;have fk:=h! fq;have bi:=h! fG;have bt:=h! hK;have fy:=h! ft;clear fq fG hK ft)
 obtain ⟨O,hO⟩ : ∃ O,O=(d' ++ [0]).reverse:=⟨_,rfl⟩
 have ea:O.reverse=d' ++ [0]:=by rw [hO,List.reverse_reverse]
 have fc:Hid (fT f O):=h! ⟨s',by
  rw [ea, <-aq.out]
  exact .go (by rw [List.getElem?_replicate,if_pos (by omega)]) fk.out (.nil _ _)⟩
 obtain ⟨gn, -,ey,fi, -⟩:=fc.out.facts
 obtain ⟨m,hm⟩ : ∃ m,m=O.length:=⟨_,rfl⟩
 have ds:(d' ++ [0]).length=m:=by rw [<-ea,List.length_reverse, <-hm]
 have HM:=h! hm
 have hm1:1 <= m:=by rw [hm];exact Nat.pos_of_ne_zero fun e=>by rw [bZ e] at fi;cases fi
 have hmn:m <= nb:=by rw [hm,aq.out];exact fc.out.le
 have ip:=h! gn
 have hz:=h! ey
 have HOR:=h! ea
 have bm:=bi.out.own
 rw [ds] at bm
 obtain ⟨oa,oc,rfl⟩:=bm.form
 have cr:∀ k,(Value.slice oa m oc).ownBlock=some k -> w4.heap.size <= k:=fun k hk=>(bt.out.own k hk).resolve_left (by simp [Value.ownBlock])
 have bx:=h! cr
 have en:Hid (Own w5 w.heap.size [w3.heap.size+1,w3.heap.size,w.heap.size,w3.heap.size+1+1,aa,bg] 3 1 (.slice oa m oc) (natI (d' ++ [0])).length ((natI (d' ++ [0])).map (.int .i64))):=h! (by
  rw [fE,ds]
  have e9:(natI (d' ++ [0])).map (Value.int .i64)=(d' ++ [0]).map fun x:Nat=>Value.int .i64 x:=by unfold natI;rw [cO];rfl
  rw [e9];exact bm)
 have jr:Hid ((natI (d' ++ [0])).length=m):=h! (by rw [fE,ds])
 have dh:Hid (∀ w',Own w' w.heap.size [w3.heap.size+1,w3.heap.size,w.heap.size,w3.heap.size+1+1,aa,bg] 3 1 (.slice oa m oc) (natI (d' ++ [0])).length ((natI (d' ++ [0])).reverse.map (.int .i64)) -> Ints w' (.slice oa m oc) (natI O)):=h! (fun w' h=>by
  have e9:(natI (d' ++ [0])).reverse=natI O:=by unfold natI;rw [<-List.map_reverse,hO]
  rw [e9] at h
  have h2:=h.row
  rw [fE,ds,hm, <-fE O] at h2
  have h3:=Ints.of_own h2 (by rw [fE];omega) (zP fun b hb=>by have:=ey b hb;have:=aq.out;omega)
  rw [fE, <-hm] at h3
  rw [hm];rw [hm] at h3;exact h3)
 clear hO ea gn ey fi hm ds bm cr
 clear ae ao an af ai aj ag ak al iz hT ij hY iv jw jm il ii
 replace GV:=h! bi.out.gvar
 replace BG:Hid (Box w5 bg #[.slice ap np cp,.int .i64 ar,.int .i64 ce,.slice (some ⟨bb,bo,none⟩) nb cb,(.slice (some ⟨bp,0,none⟩) nb nb),.slice oa m oc,(.slice (some ⟨lg,0,none⟩) nb am)]):=h! (by simpa using bi.out.graph)
 obtain ⟨af,ai,aj⟩:=GV.out
 obtain ⟨ag,ak,al⟩:=BG.out
 clear B1 FL BB BV
 go_upto_region 17 with (go_at_call 129;refine (wK en.out (by rw [jr.out];omega)).mono ?_;rintro e w6 ⟨rfl,gi,gd⟩;have hi:=h! gi;have bj:=h! gd;clear gi gd)
 have fb:Hid (Turn [w3.heap.size,bg] w4 w6):=h! ⟨bj.out.os.trans bt.out.os,bj.out.tape.trans bt.out.tape,bj.out.output.trans bt.out.output,bA bt.out.size bj.out.size,fun k hk hm=>(bj.out.block k (aR hk bt.out.size) (by simp) (fun e=>by have:=bx.out k e;omega)).trans (bt.out.block k hk hm (by simp [Value.ownBlock]))⟩
 replace ad:=h! (ad.out.turn fb.out (by have:=bl.out;have:=br.out;simp only [bR,dV,or_false];omega) (by intro y hy;simp at hy ⊢;rcases hy with rfl | rfl <;> simp))
 replace ah:=h! (ah.out.turn fb.out (by have:=bl.out;have:=br.out;simp only [bR,dV,or_false];omega))
 clear af ai aj ag ak al
 replace GV:=h! (GV.out.kept bj.out (by simp) (fun e=>en.out.free _ e (by simp)))
 replace BG:=h! (BG.out.kept bj.out (by simp) (fun e=>en.out.free _ e (by simp)))
 have HI:=h! (dh.out w6 hi.out)
 replace HW:=h! (bj.out.below fy.out (by simp) (fun k hk=>by have:=bx.out k hk;have:=hx.out;omega))
 clear dh hi bj bt fb en bi gB gz fk fy
 obtain ⟨af,ai,aj⟩:=GV.out
 obtain ⟨ag,ak,al⟩:=BG.out
 go_wp2_with fail
 go_loopw [84] (fun i wr => ∃ q:Nat,q <= m/\i = .int .i64 q/\Cells wr (.slice (some ⟨lg,0,none⟩) nb am) lg (iC nb O q)/\Ints wr (.slice oa m oc) (natI O)/\Bag wr w.heap.size [w3.heap.size,w.heap.size,bg,aa,lg] bp 3 vs (gT f)/\Below w.heap.size w wr/\Box wr aa #[.pointer (some ⟨bg,0,none⟩)]/\Box wr bg #[.slice ap np cp,.int .i64 ar,.int .i64 ce,.slice (some ⟨bb,bo,none⟩) nb cb,(.slice (some ⟨bp,0,none⟩) nb nb),.slice oa m oc,(.slice (some ⟨lg,0,none⟩) nb am)]) (fun i _=>m - (intOf i).toNat)
 case atStart=>exact ⟨0,aH _,rfl,by rw [rJ];exact ah.out,HI.out,ad.out,HW.out,GV.out,BG.out⟩
 obtain ⟨q,hq,rfl,hL,hI,hR,hW,h2,h3⟩:=hrel
 clear af ai aj ag ak al
 replace ah:=h! hL
 replace HI:=h! hI
 replace ad:=h! hR
 replace HW:=h! hW
 replace GV:=h! h2
 replace BG:=h! h3
 clear hL hI hR hW h2 h3
 obtain ⟨af,ai,aj⟩:=GV.out
 obtain ⟨ag,ak,al⟩:=BG.out
 by_cases hltq:q < m
 ·obtain ⟨ia,ic,ib,io,iq,jd,him,fj,ho⟩:=HI.out.parts
  injection iq with e1 e2 e3
  subst e1 e3
  obtain ⟨rfl,hib⟩:=fj (by omega)
  obtain ⟨bn,da⟩ : ∃ bn,O[q]? = some bn:=⟨_,aB (by have:=HM.out;omega)⟩
  have iw:=ho q (by omega)
  rw [show (natI O).getD q 0=(bn:Int) by unfold natI;rw [aN,aO,da];rfl] at iw
  have cB:bn < nb:=by have:=hz.out bn (aG da);have:=aq.out;omega
  have HQ:=h! da
  obtain ⟨y,hy⟩ : ∃ y,(iC nb O q)[bn]? = some y:=⟨_,aB (by rw [fR];exact cB)⟩
  obtain ⟨lc2, -, -, -,hcl,gg⟩:=ah.out.form
  have hpc:=hcl bn y hy
  have hpf:=gg bn
  clear fj ho da hy hcl gg e2 jd
  go_wp2
  go_roundw
  case rel =>
   exact ⟨q+1,hltq,by go_num,by rw [<-wM ip.out HQ.out cB];exact ah.out.set (by rw [fR];exact cB),HI.out.other _ (fun g hg e=>by have:=bx.out g hg;have:=hx.out;simp only at e;omega),
    ad.out.other _ (by simp) fp,HW.out.setCell (p:=⟨lg,bn,none⟩) (by have:=br.out;simp only;omega) _,GV.out.other _ (Ne.symm cn),BG.out.other _ (by have:=br.out;simp only;omega)⟩
  simp [intOf];omega
 have hE:q=m:=by omega
 have fw:=h! (ad.out.lists (by unfold gT;rw [iF];have:=aq.out;omega) (uL (by have:=aq.out;omega)))
 have gl:=h! (ah.out.ints (by rw [fR];omega) (zQ _ (by have:=HM.out;omega)))
 have je:Hid ((gT f).length=nb):=h! (by unfold gT;rw [iF,aq.out])
 rw [je.out] at fw
 rw [hE,HM.out,aq.out] at gl
 go_wp2
 go_ret
 exact ⟨bg,O,rfl,fc.out,⟨_,_,_,_,_,_,_,rfl,BG.out,by have:=br.out;omega,fw.out,HI.out,by have:=gl.out;rw [<-aq.out] at this ⊢;exact this⟩,HW.out⟩
end
section
open Go.RowKit
theorem eY {f:FuncD} (h:eV f=0):gW f=true/\idsF f=true:=by
 unfold eV at h
 split at h
 ·rename_i h2;simpa using h2
 cases h
def fN (w0 W:World):Prop:=Below w0.heap.size w0 W
theorem fN.later {w0 W W' : World} (h:fN w0 W) (hb:Below W.heap.size W W'):fN w0 W':=Below.trans h (hb.mono (Below.size h))
theorem mQ.later {f:FuncD} {v:Value} {w0 W W' : World} {bg:Nat} {O:List Nat} (h:mQ f v w0 W bg O) (hb:Below W.heap.size W W'):mQ f v w0 W' bg O:=by
 obtain ⟨a0,a1,a2,a3,pv,ov,lv,e,h1,h2,h3,h4,h5⟩:=h
 exact ⟨a0,a1,a2,a3,pv,ov,lv,e,h1.later hb,h2,h3.below hb,h4.below hb,h5.below hb⟩
theorem mQ.from {f:FuncD} {v:Value} {w0 w1 W:World} {bg:Nat} {O:List Nat} (h:mQ f v w1 W bg O) (hs:w0.heap.size <= w1.heap.size):mQ f v w0 W bg O:=by
 obtain ⟨a0,a1,a2,a3,pv,ov,lv,e,h1,h2,h3,h4,h5⟩:=h
 exact ⟨a0,a1,a2,a3,pv,ov,lv,e,h1,by omega,h3,h4,h5⟩
def aFP (f:FuncD) (v:Value) (w:World) (e:Ending) (w' : World):Prop :=
 Below w.heap.size w w' /\ ((eV f ≠ 0/\e = .returned (.tuple #[.pointer none,.int .i64 (eV f)])) \/ (eV f=0 /\ ∃ bg O,e = .returned (.tuple #[.pointer (some ⟨bg,0,none⟩),.int .i64 0])/\fT f O/\mQ f v w w' bg O))
theorem aAQ {w:World} {v:Value} {f:FuncD} (hv:fP w v f):Calls Tryz.prog 134 #[v] w (aFP f v w):=by
 have HV:=h! hv
 obtain ⟨ap,cp,ab,cb,rfl,hp,ha,hc,hB⟩:=hv.form
 clear hp ha hc hB hv
 go_enter Tryz.func134,Tryz.ntmps134
 go_upto_region 1 with (fail)
 have ag:=(Below.refl w.heap.size w).alloc (aC _) (.cells #[.slice ap f.params.length cp,.int .i64 f.arrays,.int .i64 f.cells,.slice ab f.blocks.length cb] 25)
 have HW:=h! ag
 clear ag
 have B1:=h! (Box.new w #[.slice ap f.params.length cp,.int .i64 f.arrays,.int .i64 f.cells,.slice ab f.blocks.length cb] 25)
 generalize w.alloc (.cells #[.slice ap f.params.length cp,.int .i64 f.arrays,.int .i64 f.cells,.slice ab f.blocks.length cb] 25)=wv at *
 obtain ⟨ad,aa,ac⟩:=B1.out
 go_wp2_with fail
 refine (aBF (HV.out.below HW.out)).mono ?_
 rintro e w2 ⟨rfl,hb⟩
 clear ad aa ac
 replace B1:=h! (B1.out.later hb)
 replace HW:=h! (HW.out.trans (hb.mono HW.out.size))
 clear hb
 obtain ⟨ad,aa,ac⟩:=B1.out
 cases hc0:(eV f == 0)
 ·have ah:(eV f != 0)=true:=by simp [bne,hc0]
  have ai:=h! hc0
  go_wp2
  go_ret2
  exact ⟨HW.out,.inl ⟨by simpa using ai.out,rfl⟩⟩
 have ah:(eV f != 0)=false:=by simp [bne,hc0]
 have af:Hid (eV f=0):=h! (by simpa using hc0)
 go_wp2_with fail
 refine (uW (HV.out.below HW.out) (eY af.out).1).mono ?_
 rintro e w3 ⟨bg,O,rfl,hO,hG,ae⟩
 have HO:=h! hO
 have HG:=h! (hG.from HW.out.size)
 clear hO hG
 clear ad aa ac
 replace B1:=h! (B1.out.later ae)
 replace HW:=h! (HW.out.trans (ae.mono HW.out.size))
 clear ae
 obtain ⟨ad,aa,ac⟩:=B1.out
 go_wp2
 go_ret2
 exact ⟨HW.out,.inr ⟨af.out,bg,O,rfl,HO.out,HG.out⟩⟩
def nW (w:World) (v:Value) (xs:List Bool):Prop:=Row w v xs.length 1 (xs.map .bool)
theorem nW.below {w w' : World} {v:Value} {xs:List Bool} (h:nW w v xs) (hb:Below w.heap.size w w'):nW w' v xs:=Row.below h hb
theorem nW.nil {w:World}:nW w (.slice none 0 0) []:=Row.nil
theorem nW.form {w:World} {v:Value} {xs:List Bool} (h:nW w v xs):∃ a c,v = .slice a xs.length c:=by
 obtain ⟨a,c,hv,_⟩:=h.is
 exact ⟨a,c,hv⟩
theorem nW.parts {w:World} {v:Value} {xs:List Bool} (h:nW w v xs) :
  ∃ a cap b off,v = .slice a xs.length cap/\xs.length <= cap/\cap <= 9223372036854775807/\(0 < xs.length -> a=some ⟨b,off,none⟩/\b < w.heap.size) /\
   ∀ (j:Nat) (x:Bool),xs[j]? = some x -> w.cell? ⟨b,off+j,none⟩=some (.bool x):=by
 obtain ⟨a,cap,b,off,hv,h1,h2,h3,h4⟩:=Row.parts h
 exact ⟨a,cap,b,off,hv,h1,by unfold maxLen at h2;omega,by simpa using h3,fun j x hj=>h4 j _ (by simp [hj])⟩
def mV (f:FuncD) (gone:Int) (S:List Bool):Prop:=S.length=f.blocks.length /\ ∀ b,S[b]? = some true ↔ Way (toB f) gone b
end
end Go.Proofs.YtagabiidbbhhmaaGreat
