/- Part 41. -/
import Derived.Test.YtagabiidbbhhmaaGreatEU40
namespace Go.Proofs.YtagabiidbbhhmaaGreat
set_option linter.all false
open Go.RowKit
theorem aC3 {α : Type} {xs:List α} {z x : α} {j:Nat} (hx:xs[j]? = some x):(xs.take j ++ List.replicate (xs.length - j) z)[j]? = some z/\(xs.take j ++ List.replicate (xs.length - j) z).set j x=xs.take (j+1) ++ List.replicate (xs.length - (j+1)) z:=by
 have hl:=(aD.1 hx).1
 have ht:(xs.take j).length=j:=by rw [aV];omega
 obtain ⟨m,hm⟩ : ∃ m,xs.length - j=m+1:=⟨xs.length - j - 1,by omega⟩
 have aa:xs.length - (j+1)=m:=by omega
 rw [hm,aa,List.replicate_succ]
 constructor
 ·rw [bS (by omega),ht,dN];rfl
 rw [List.set_append_right _ _ (by omega),ht,dN,aE,cW,hx,Option.toList_some,bN];rfl
def aGM (f:FuncD) (w:World) (e:Ending) (w' : World):Prop := ∃ v S,e = .returned v/\OFunc w' S v f/\kC w.heap.size S/\Below w.heap.size w w'
set_option maxHeartbeats 25600000 in
set_option maxRecDepth 100000 in
theorem aDF {w:World} {v:Value} {f:FuncD} (hv:fP w v f) (hsz:∀ x ∈ f.blocks,x.phis.length <= 100000/\x.code.length <= 100000) (hnb:f.blocks.length <= 100000):Calls Tryz.prog 48 #[v] w (aGM f w):=by
 have HV:=h! hv
 obtain ⟨ap,cp,ab,cb,rfl,hp,bk,ba,hB⟩:=hv.form
 have cq:=h! (And.intro bk ba)
 obtain ⟨a2,c2,bb,bo,dm,dd,hbm,di,cf,cy⟩:=eW hB
 cases dm
 obtain ⟨np,bn⟩ : ∃ np,np=f.params.length:=⟨_,rfl⟩
 obtain ⟨ar,bw⟩ : ∃ ar,ar=f.arrays:=⟨_,rfl⟩
 obtain ⟨ce,cj⟩ : ∃ ce,ce=f.cells:=⟨_,rfl⟩
 obtain ⟨nb,aw⟩ : ∃ nb,nb=f.blocks.length:=⟨_,rfl⟩
 rw [<-aw] at dd cf di hnb
 rw [<-aw, <-bn, <-bw, <-cj]
 rw [<-bn] at hp
 have dj:=h! hp
 have dl:=h! bn
 have ch:=h! aw
 have dc:=h! cf
 have da:=h! cy
 have cn:Hid (ar=f.arrays/\ce=f.cells):=h! ⟨bw,cj⟩
 have df:=h! hsz
 clear hp hB hv cy bn aw cf bw cj bk ba hsz HV
 go_enter Tryz.func48,Tryz.ntmps48
 go_upto_region 2 with (fail)
 have ad:=(Below.refl w.heap.size w).alloc (aC _) (.cells #[.slice ap np cp,.int .i64 ar,.int .i64 ce,.slice ab nb cb] 25)
 have HW:=h! ad
 clear ad
 have B1:=h! (Box.new w #[.slice ap np cp,.int .i64 ar,.int .i64 ce,.slice ab nb cb] 25)
 have ay:(w.alloc (.cells #[.slice ap np cp,.int .i64 ar,.int .i64 ce,.slice ab nb cb] 25)).heap.size=w.heap.size+1:=World.size_alloc _ _
 generalize w.alloc (.cells #[.slice ap np cp,.int .i64 ar,.int .i64 ce,.slice ab nb cb] 25)=bh at *
 have ad:=(Below.refl bh.heap.size bh).alloc (aC _) (.cells #[.slice none 0 0,.int .i64 0,.int .i64 0,.slice none 0 0] 25)
 replace B1:=h! (B1.out.later ad)
 replace HW:=h! (HW.out.trans (ad.mono HW.out.size))
 clear ad
 have B2:=h! (Box.new bh #[.slice none 0 0,.int .i64 0,.int .i64 0,.slice none 0 0] 25)
 rw [ay] at B2
 have bj:(bh.alloc (.cells #[.slice none 0 0,.int .i64 0,.int .i64 0,.slice none 0 0] 25)).heap.size=w.heap.size+1+1:=by rw [World.size_alloc,ay]
 clear ay
 generalize bh.alloc (.cells #[.slice none 0 0,.int .i64 0,.int .i64 0,.slice none 0 0] 25)=bp at *
 have ad:=(Below.refl bp.heap.size bp).alloc (aC _) (.cells #[.slice ap np cp,.int .i64 ar,.int .i64 ce,.slice ab nb cb] 25)
 replace B1:=h! (B1.out.later ad)
 replace B2:=h! (B2.out.later ad)
 replace HW:=h! (HW.out.trans (ad.mono HW.out.size))
 clear ad
 have B3:=h! (Box.new bp #[.slice ap np cp,.int .i64 ar,.int .i64 ce,.slice ab nb cb] 25)
 rw [bj] at B3
 clear bj
 generalize bp.alloc (.cells #[.slice ap np cp,.int .i64 ar,.int .i64 ce,.slice ab nb cb] 25)=wv at *
 obtain ⟨ac,ag,ah⟩:=B1.out
 obtain ⟨ae,ai,ak⟩:=B2.out
 obtain ⟨aa,aj,af⟩:=B3.out
 go_wp2_with fail
 refine (sK (dj.out.below HW.out)).mono ?_
 rintro e w2 ⟨pv2,SQ,rfl,hI,hF,hb⟩
 obtain ⟨am,al,rfl⟩:=hI.ints.form
 rw [<-dl.out] at hI ⊢
 have HQ:Hid (Holds [w.heap.size,w.heap.size+1,w.heap.size+1+1] (w.heap.size+3) w2 SQ (fun W=>eR W SQ (.slice am np al) f.params)):=h! (((gF hI hF).from (by have:=B3.out.lt;omega)).low (by simp))
 clear hI hF
 clear ac ag ah ae ai ak aa aj af
 replace B1:=h! (B1.out.later hb)
 replace B2:=h! (B2.out.later hb)
 replace B3:=h! (B3.out.later hb)
 replace HW:=h! (HW.out.trans (hb.mono HW.out.size))
 clear hb
 obtain ⟨ac,ag,ah⟩:=B1.out
 obtain ⟨ae,ai,ak⟩:=B2.out
 obtain ⟨aa,aj,af⟩:=B3.out
 go_upto_region 3 with (fail)
 clear ac ag ah ae ai ak aa aj af
 have aq:=(Only.set w2 (w.heap.size+1+1) 0 (.slice am np al))
 replace B1:=h! (B1.out.only aq (by first | assumption | (simp;done) | omega))
 replace B2:=h! (B2.out.only aq (by first | assumption | (simp;done) | omega))
 replace HQ:=h! (HQ.out.other (p:=⟨w.heap.size+1+1,0,none⟩) (.slice am np al) (by simp))
 replace HW:=h! (aq.2.2 HW.out (by first | assumption | omega | (have:=HW.out.size;omega) | (simp;done) | (simp;omega)))
 replace B3:=h! (Box.to (A':=#[(.slice am np al),.int .i64 ar,.int .i64 ce,.slice ab nb cb]) (B3.out.set 0 (.slice am np al)) (by first | rfl | simp))
 clear aq
 generalize (w2.setCell ⟨w.heap.size+1+1,0,none⟩ (.slice am np al))=w3 at *
 obtain ⟨ac,ag,ah⟩:=B1.out
 obtain ⟨ae,ai,ak⟩:=B2.out
 obtain ⟨aa,aj,af⟩:=B3.out
 have cB:w.heap.size+3 <= w3.heap.size:=by omega
 have cm:=h! cB
 have bO:=h! HQ.out.lt
 clear cB
 go_upto_region 4 with (at_make;refine mU rfl _ _ rfl nb rfl rfl rfl rfl hnb ?_;intro w4 hmk hgr;have hB3:=B3.out.later hgr;obtain ⟨lx,cx,fx⟩:=hB3)
 clear lx cx fx
 have az:Hid (Holds [w.heap.size,w.heap.size+1,w.heap.size+1+1] (w.heap.size+3) w4 (Foot.one w3.heap.size) (fun W=>eX W (Foot.one w3.heap.size) (.slice (some ⟨w3.heap.size,0,none⟩) nb nb) (List.replicate nb rS))):=h! ((jE OBlock.nice hmk (fun k hk=>by cases hk;exact cm.out)).low (by simp))
 clear hmk
 clear ac ag ah ae ai ak aa aj af
 replace B1:=h! (B1.out.later hgr)
 replace B2:=h! (B2.out.later hgr)
 replace B3:=h! (B3.out.later hgr)
 replace HQ:=h! (HQ.out.later hgr)
 replace HW:=h! (HW.out.trans (hgr.mono HW.out.size))
 clear hgr
 obtain ⟨ac,ag,ah⟩:=B1.out
 obtain ⟨ae,ai,ak⟩:=B2.out
 obtain ⟨aa,aj,af⟩:=B3.out
 clear ac ag ah ae ai ak aa aj af
 have aq:=(Only.set w4 (w.heap.size+1+1) 3 (.slice (some ⟨w3.heap.size,0,none⟩) nb nb))
 replace B1:=h! (B1.out.only aq (by first | assumption | (simp;done) | omega))
 replace B2:=h! (B2.out.only aq (by first | assumption | (simp;done) | omega))
 replace HQ:=h! (HQ.out.other (p:=⟨w.heap.size+1+1,3,none⟩) (.slice (some ⟨w3.heap.size,0,none⟩) nb nb) (by simp))
 replace az:=h! (az.out.other (p:=⟨w.heap.size+1+1,3,none⟩) (.slice (some ⟨w3.heap.size,0,none⟩) nb nb) (by simp))
 replace HW:=h! (aq.2.2 HW.out (by first | assumption | omega | (have:=HW.out.size;omega) | (simp;done) | (simp;omega)))
 replace B3:=h! (Box.to (A':=#[(.slice am np al),.int .i64 ar,.int .i64 ce,(.slice (some ⟨w3.heap.size,0,none⟩) nb nb)]) (B3.out.set 3 (.slice (some ⟨w3.heap.size,0,none⟩) nb nb)) (by first | rfl | simp))
 clear aq
 generalize (w4.setCell ⟨w.heap.size+1+1,3,none⟩ (.slice (some ⟨w3.heap.size,0,none⟩) nb nb))=w5 at *
 obtain ⟨ac,ag,ah⟩:=B1.out
 obtain ⟨ae,ai,ak⟩:=B2.out
 obtain ⟨aa,aj,af⟩:=B3.out
 obtain ⟨gB,bq⟩ : ∃ g,g=w3.heap.size:=⟨_,rfl⟩
 rw [<-bq] at az B3 cm bO
 have cr:Hid (SQ.off (Foot.one gB)):=h! (fun k h1 h2=>by cases h2;have:=bO.out _ h1;omega)
 simp only [<-bq]
 clear bq bO
 go_wp2_with fail
 go_loopw [19] (fun i wr => ∃ (j:Nat) (SB:Foot),j <= nb/\i = .int .i64 j/\Below w.heap.size w wr/\Box wr w.heap.size #[.slice ap np cp,.int .i64 ar,.int .i64 ce,.slice ab nb cb]/\Box wr (w.heap.size+1) #[.slice none 0 0,.int .i64 0,.int .i64 0,.slice none 0 0]/\Box wr (w.heap.size+1+1) #[.slice am np al,.int .i64 ar,.int .i64 ce,.slice (some ⟨gB,0,none⟩) nb nb] /\
   Holds [w.heap.size,w.heap.size+1,w.heap.size+1+1] (w.heap.size+3) wr SQ (fun W=>eR W SQ (.slice am np al) f.params)/\Holds [w.heap.size,w.heap.size+1,w.heap.size+1+1] (w.heap.size+3) wr SB (fun W=>eX W SB (.slice (some ⟨gB,0,none⟩) nb nb) (f.blocks.take j ++ List.replicate (nb - j) rS))/\SQ.off SB) (fun i _=>nb - (intOf i).toNat)
 case atStart=>exact ⟨0,Foot.one gB,Nat.zero_le _,rfl,HW.out,B1.out,B2.out,B3.out,HQ.out,by simpa using az.out,cr.out⟩
 obtain ⟨j,SB,hj,rfl,hW,h1,h2,h3,h4,h5,h6⟩:=hrel
 clear ac ag ah ae ai ak aa aj af
 replace HW:=h! hW
 replace B1:=h! h1
 replace B2:=h! h2
 replace B3:=h! h3
 replace HQ:=h! h4
 have ao:=h! h5
 have bc:=h! h6
 clear hW h1 h2 h3 h4 h5 h6 az cr
 generalize wr=w6 at *
 obtain ⟨ac,ag,ah⟩:=B1.out
 obtain ⟨ae,ai,ak⟩:=B2.out
 obtain ⟨aa,aj,af⟩:=B3.out
 by_cases hlt:j < nb
 ·obtain ⟨rfl,cG⟩:=dc.out (by omega)
  obtain ⟨x,bm⟩ : ∃ x,f.blocks[j]? = some x:=⟨_,aB (by have:=ch.out;omega)⟩
  obtain ⟨bt,cl,ci,cd,ck,cc,hC⟩:=da.out j x bm
  have dg:=h! hC.blockV
  obtain ⟨k0,k1,k2,k3,k4,k5, -, -, -, -, -, -⟩:=hC.below HW.out cG
  have cF:=h! (df.out x (aG bm))
  have bl:=h! (aC3 (z:=rS) bm)
  rw [<-ch.out] at bl
  clear bm hC
  have bx:Hid (∀ k,SB k -> k < w6.heap.size):=h! ao.out.lt
  have bv:Hid (∀ k,SQ k -> k < w6.heap.size):=h! HQ.out.lt
  have hl6:w.heap.size+3 <= w6.heap.size:=by omega
  go_upto_region 7 with (fail)
  have bi:w6.heap.size ≠ w.heap.size:=fun e=>by have:=ac;omega
  have nB1BL:w.heap.size ≠ w6.heap.size:=fun e=>bi e.symm
  have bd:w6.heap.size ≠ w.heap.size+1:=fun e=>by have:=ae;omega
  have nB2BL:w.heap.size+1 ≠ w6.heap.size:=fun e=>bd e.symm
  have bg:w6.heap.size ≠ w.heap.size+1+1:=fun e=>by have:=aa;omega
  have nB3BL:w.heap.size+1+1 ≠ w6.heap.size:=fun e=>bg e.symm
  clear ac ag ah ae ai ak aa aj af
  have ad:=(Below.refl w6.heap.size w6).alloc (aC _) (.cells #[.slice bt x.phis.length cd,.slice cl x.code.length ck,.int .i64 x.term.op,.int .i64 x.term.val,.slice ci x.term.to.length cc,.int .i64 x.term.n] 63)
  replace B1:=h! (B1.out.later ad)
  replace B2:=h! (B2.out.later ad)
  replace B3:=h! (B3.out.later ad)
  replace HQ:=h! (HQ.out.later ad)
  replace ao:=h! (ao.out.later ad)
  replace HW:=h! (HW.out.trans (ad.mono HW.out.size))
  clear ad
  have BL:=h! (Box.new w6 #[.slice bt x.phis.length cd,.slice cl x.code.length ck,.int .i64 x.term.op,.int .i64 x.term.val,.slice ci x.term.to.length cc,.int .i64 x.term.n] 63)
  generalize w6.alloc (.cells #[.slice bt x.phis.length cd,.slice cl x.code.length ck,.int .i64 x.term.op,.int .i64 x.term.val,.slice ci x.term.to.length cc,.int .i64 x.term.n] 63)=w7 at *
  obtain ⟨ac,ag,ah⟩:=B1.out
  obtain ⟨ae,ai,ak⟩:=B2.out
  obtain ⟨aa,aj,af⟩:=B3.out
  obtain ⟨br,ca,cg⟩:=BL.out
  clear k0 k1 k2 k3 k4 k5
  have bs:Hid (w6.heap.size <= w7.heap.size):=h! (by have:=BL.out.lt;omega)
  refine Four.wp_region_grow (XF:=(fun _=>Foot.none)) (I:=(fun _=>True)) 5 (fun ν kz=>match kz with | 4=>.holds (fun u w' => ∃ (pv uv tv:Value) (S:Foot),u = .agg #[pv,uv,.int .i64 x.term.op,.int .i64 x.term.val,tv,.int .i64 x.term.n]/\Holds [] w7.heap.size w' S (fun W=>OBlock W S [pv,uv,.int .i64 x.term.op,.int .i64 x.term.val,tv,.int .i64 x.term.n] x)) | _=>.plain) (by kernel_rfl) (by kernel_rfl) ?_ ?_ (fun _ _ h=>h.elim) (fun _ _ _ _=>trivial) trivial ?_ (fun ν => ?_)
  ·(intro ν k;(try dsimp only);split <;> first | exact True.intro | (intro u w1 w2 hu hb;(obtain ⟨pv,uv,tv,S,h1,h2⟩:=hu;exact ⟨pv,uv,tv,S,h1,h2.off hb (fun _ _ ⟨_,_,h⟩=>h.elim)⟩)))
  ·(intro ν ν' k h;first | rfl | ((try dsimp only);split <;> first | rfl))
  ·(intro ν j B mk A h;(try dsimp only at h);split at h <;> first | (cases h;exact Nat.le_refl _) | cases h)
  simp only [aP,aU,aS,aX]
  iterate 4 (refine Four.Grow.val (v := ?_) rfl rfl (fun wg hbg hdg => ?_) ?_;rotate_left;(focus ((obtain ⟨lg0,cg0,fg0⟩:=B1.out.off hbg.off (fun ⟨_,h⟩=>h.elim));(obtain ⟨lg1,cg1,fg1⟩:=B2.out.off hbg.off (fun ⟨_,h⟩=>h.elim));(obtain ⟨lg2,cg2,fg2⟩:=B3.out.off hbg.off (fun ⟨_,h⟩=>h.elim));(obtain ⟨lg3,cg3,fg3⟩:=BL.out.off hbg.off (fun ⟨_,h⟩=>h.elim));clear hbg hdg;first | (go_simp;done) | (go_simp;with_reducible rfl)));simp only [Act.put,aA,aE,aF])
  refine Four.Grow.call (f := ?_) (args := ?_) rfl (fun wg => ?_) (fun wg hbg hdg => ?_) ?_
  rotate_left 2
  focus (first | (go_simp;done) | (go_simp;refine And.intro ?_ ?_ <;> with_reducible rfl) | (go_simp;with_reducible rfl))
  focus (exact (rQ (dg.out.below (HW.out.trans ((pre0 hbg).mono HW.out.size))) cF.out.1 cF.out.2).mono (fun e w2 ⟨pv,uv,tv,S,he,hO,hF,hw⟩=>⟨_,he,⟨pv,uv,tv,S,rfl,(kM OBlock.nice hO hF).from hbg.1.size⟩,hw⟩))
  simp only [Act.put,Known.val,aA,aE,aF]
  intro wg hb hf cL
  clear cL
  clear ac ag ah ae ai ak aa aj af br ca cg
  replace B1:=h! (B1.out.off hb.1 (fun ⟨_,h⟩=>h.elim))
  replace B2:=h! (B2.out.off hb.1 (fun ⟨_,h⟩=>h.elim))
  replace B3:=h! (B3.out.off hb.1 (fun ⟨_,h⟩=>h.elim))
  replace BL:=h! (BL.out.off hb.1 (fun ⟨_,h⟩=>h.elim))
  replace HQ:=h! (HQ.out.off hb.1 (fun _ _ ⟨_,h⟩=>h.elim))
  replace ao:=h! (ao.out.off hb.1 (fun _ _ ⟨_,h⟩=>h.elim))
  replace HW:=h! (HW.out.trans (hb.1.below HW.out.size (fun _ _ ⟨_,h⟩=>h.elim)))
  obtain ⟨ac,ag,ah⟩:=B1.out
  obtain ⟨ae,ai,ak⟩:=B2.out
  obtain ⟨aa,aj,af⟩:=B3.out
  obtain ⟨br,ca,cg⟩:=BL.out
  simp only [bH,Nat.reduceAdd]
  have h4:∃ (pv uv tv:Value) (S:Foot), ν 4 = .agg #[pv,uv,.int .i64 x.term.op,.int .i64 x.term.val,tv,.int .i64 x.term.n]/\Holds [] w7.heap.size wg S (fun W=>OBlock W S [pv,uv,.int .i64 x.term.op,.int .i64 x.term.val,tv,.int .i64 x.term.n] x):=hf 4 (by omega)
  obtain ⟨pv,uv,tv,SN,e4,k4⟩:=h4
  obtain ⟨⟨_,_,_,S1,S2,S3,e5,o1,o2,o3, -⟩, -⟩:=k4.now
  obtain ⟨⟨tv',e6,o4⟩, -⟩:=o3
  cases e5
  cases e6
  obtain ⟨pa,co,rfl⟩:=(o1.reads (R0:=PhiR) fun _ _ _ h=>h.reads).form
  obtain ⟨ua,ct,rfl⟩:=(o2.reads (R0:=gZ) fun _ _ _ h=>h.reads).form
  obtain ⟨cz,cw,rfl⟩:=o4.ints.form
  simp only [e4]
  have K4:=h! k4
  clear e4 k4 hf o1 o2 o4 hb
  obtain ⟨g,db,z1,z2,z3,z4,z5,z6,T1,T2,T3,hv,dk,cv,hC,de, -⟩:=ao.out.now.open bl.out.1
  obtain ⟨rfl,rfl⟩ : gB=g/\nb=db:=by injection hv with h1 h2 h3;injection h1 with h1;injection h1 with h1;exact ⟨h1,h3⟩
  obtain ⟨c0,c1,c2,c3,c4,c5, -, -, -, -, -, -⟩:=hC
  have be:=h! cv
  have cM:Hid (SN.off SB):=h! (fun k h1 h2=>by have:=bx.out k h2;have:=K4.out.base k h1;have:=bs.out;omega)
  have dh:Hid (SQ.off SN):=h! (fun k h1 h2=>by have:=bv.out k h1;have:=K4.out.base k h2;have:=bs.out;omega)
  have ax:=h! (rU ao.out.now bl.out.1 hv K4.out.now cM.out)
  have an:=h! (qO wg gB (j * 6) (.slice pa x.phis.length co) (.slice ua x.code.length ct) (.int .i64 x.term.op) (.int .i64 x.term.val) (.slice cz x.term.to.length cw) (.int .i64 x.term.n))
  unfold put6 at ax an
  rw [bl.out.2] at ax
  clear hv dk cv
  go_upto_region 8 with (fail)
  clear c0 c1 c2 c3 c4 c5 de
  clear ac ag ah ae ai ak aa aj af br ca cg
  generalize ((((((wg.setCell ⟨gB,j * 6,none⟩ (.slice pa x.phis.length co)).setCell ⟨gB,j * 6+1,none⟩ (.slice ua x.code.length ct)).setCell ⟨gB,j * 6+2,none⟩ (.int .i64 x.term.op)).setCell ⟨gB,j * 6+3,none⟩ (.int .i64 x.term.val)).setCell ⟨gB,j * 6+4,none⟩ (.slice cz x.term.to.length cw)).setCell ⟨gB,j * 6+5,none⟩ (.int .i64 x.term.n))=w8 at *
  replace B1:=h! (B1.out.off an.out (fun h=>ao.out.free _ be.out (by rw [<-h];simp)))
  replace B2:=h! (B2.out.off an.out (fun h=>ao.out.free _ be.out (by rw [<-h];simp)))
  replace B3:=h! (B3.out.off an.out (fun h=>ao.out.free _ be.out (by rw [<-h];simp)))
  replace HQ:=h! (HQ.out.off an.out (fun k h1 h2=>bc.out k h1 (by cases h2;exact be.out)))
  replace HW:=h! (HW.out.trans (an.out.below HW.out.size (fun k _ hk=>by cases hk;have:=ao.out.base _ be.out;omega)))
  have bz:Hid (Holds [w.heap.size,w.heap.size+1,w.heap.size+1+1] (w.heap.size+3) w8 (fun k=>SB k \/ SN k) (fun W=>eX W (fun k=>SB k \/ SN k) (.slice (some ⟨gB,0,none⟩) nb nb) (f.blocks.take (j+1) ++ List.replicate (nb - (j+1)) rS))) :=
   h! ((jE OBlock.nice ax.out (fun k hk=>by rcases hk with hk | hk;exact ao.out.base k hk;have:=K4.out.base k hk;have:=bs.out;omega)).low (by simp))
  replace bc:Hid (SQ.off (fun k=>SB k \/ SN k)):=h! (fun k h1 h2=>by rcases h2 with h2 | h2;exact bc.out k h1 h2;exact dh.out k h1 h2)
  clear ao ax an K4 BL
  obtain ⟨ac,ag,ah⟩:=B1.out
  obtain ⟨ae,ai,ak⟩:=B2.out
  obtain ⟨aa,aj,af⟩:=B3.out
  go_wp2
  go_roundw
  case rel=>exact ⟨j+1,_,hlt,by go_num,HW.out,B1.out,B2.out,B3.out,HQ.out,bz.out,bc.out⟩
  simp [intOf];omega
 have cs:j=nb:=by omega
 have bf:Hid (Holds [w.heap.size,w.heap.size+1,w.heap.size+1+1] (w.heap.size+3) w6 SB (fun W=>eX W SB (.slice (some ⟨gB,0,none⟩) nb nb) f.blocks)):=h! (by
  have h9:=ao.out
  rw [cs,dN,aJ (by have:=ch.out;omega)] at h9
  simpa using h9)
 clear ao cs
 go_wp2
 clear ac ag ah ae ai ak aa aj af
 have aq:=((((Only.set w6 (w.heap.size+1) 0 (.slice am np al)).put 1 (.int .i64 ar)).put 2 (.int .i64 ce)).put 3 (.slice (some ⟨gB,0,none⟩) nb nb))
 replace B1:=h! (B1.out.only aq (by first | assumption | (simp;done) | omega))
 replace B3:=h! (B3.out.only aq (by first | assumption | (simp;done) | omega))
 replace HQ:=h! ((((HQ.out.other (p:=⟨w.heap.size+1,0,none⟩) (.slice am np al) (by simp)).other (p:=⟨w.heap.size+1,1,none⟩) (.int .i64 ar) (by simp)).other (p:=⟨w.heap.size+1,2,none⟩) (.int .i64 ce) (by simp)).other (p:=⟨w.heap.size+1,3,none⟩) (.slice (some ⟨gB,0,none⟩) nb nb) (by simp))
 replace bf:=h! ((((bf.out.other (p:=⟨w.heap.size+1,0,none⟩) (.slice am np al) (by simp)).other (p:=⟨w.heap.size+1,1,none⟩) (.int .i64 ar) (by simp)).other (p:=⟨w.heap.size+1,2,none⟩) (.int .i64 ce) (by simp)).other (p:=⟨w.heap.size+1,3,none⟩) (.slice (some ⟨gB,0,none⟩) nb nb) (by simp))
 replace HW:=h! (aq.2.2 HW.out (by first | assumption | omega | (have:=HW.out.size;omega) | (simp;done) | (simp;omega)))
 replace B2:=h! (Box.to (A':=#[(.slice am np al),(.int .i64 ar),(.int .i64 ce),(.slice (some ⟨gB,0,none⟩) nb nb)]) ((((B2.out.set 0 (.slice am np al)).set 1 (.int .i64 ar)).set 2 (.int .i64 ce)).set 3 (.slice (some ⟨gB,0,none⟩) nb nb)) (by first | rfl | simp))
 clear aq
 generalize ((((w6.setCell ⟨w.heap.size+1,0,none⟩ (.slice am np al)).setCell ⟨w.heap.size+1,1,none⟩ (.int .i64 ar)).setCell ⟨w.heap.size+1,2,none⟩ (.int .i64 ce)).setCell ⟨w.heap.size+1,3,none⟩ (.slice (some ⟨gB,0,none⟩) nb nb))=w7 at *
 obtain ⟨ac,ag,ah⟩:=B1.out
 obtain ⟨ae,ai,ak⟩:=B2.out
 obtain ⟨aa,aj,af⟩:=B3.out
 refine bodyPost_ret (v:=.agg #[.slice am np al,.int .i64 ar,.int .i64 ce,.slice (some ⟨gB,0,none⟩) nb nb]) (by simp [results,Tryz.results48,go_sem, *]) rfl ⟨_,fun q=>SQ q \/ SB q,rfl,⟨⟨_,_,SQ,SB,by rw [cn.out.1,cn.out.2],HQ.out.now,bf.out.now,bc.out,fun k h=>.inl h,fun k h=>.inr h⟩,fun k hk=>hk.elim (HQ.out.lt k) (bf.out.lt k),cq.out.1,cq.out.2⟩,fun k hk => ?_,HW.out⟩
 rcases hk with hk | hk
 ·have:=HQ.out.base k hk;omega
 have:=bf.out.base k hk;omega
theorem fV.open {W:World} {S:Foot} {v:Value} {ps:List PhiD} (h:fV W S v ps) {j:Nat} {p:PhiD} (hj:ps[j]? = some p) :
  ∃ (g cap:Nat) (af av:Option Addr) (cf cv:Nat) (cs:List Value) (G Sf Sv:Foot),v = .slice (some ⟨g,0,none⟩) ps.length cap/\g < W.heap.size/\G g/\(∀ k,G k -> S k)/\PhiC W g (j * 4) p af av cf cv/\(∀ o,W.frozen? ⟨g,o,none⟩=false)/\cs[j * 4+2]? = some (.slice af p.src.length cf)/\cs[j * 4+3]? = some (.slice av p.vals.length cv) /\
   ORow W G 78 4 v ps.length cs/\eR W Sf (.slice af p.src.length cf) p.src/\eR W Sv (.slice av p.vals.length cv) p.vals/\(∀ k,Sf k -> S k)/\(∀ k,Sv k -> S k)/\Sf.off Sv/\Sf.off G/\Sv.off G /\
   (∀ (W' : World) (u2 u3:Value) (src vals:List Int) (Sf' Sv' : Foot),Off (G.or (Sf.or Sv)) W W' -> ORow W' G 78 4 v ps.length ((cs.set (j * 4+2) u2).set (j * 4+3) u3) -> eR W' Sf' u2 src -> eR W' Sv' u3 vals -> Sf'.off Sv' ->
    (∀ k,Sf' k -> Sf k \/ W.heap.size <= k) -> (∀ k,Sv' k -> Sv k \/ W.heap.size <= k) -> fV W' (fun k=>S k \/ Sf' k \/ Sv' k) v (ps.set j { p with src:=src,vals:=vals })):=by
 obtain ⟨cs,G,F,hp⟩:=h
 have ac:=(aD.1 hj).1
 have hn:0 < ps.length:=by omega
 obtain ⟨g,cap,hv,hG, -, -,ai,ab,aj⟩:=hp.row.addr hn
 obtain ⟨⟨a,b,Sf,Sv,ad,h1,h2,ag,i1,i2⟩,hFl,q1,q2⟩:=hp.el j p hj
 obtain ⟨af,cf,rfl⟩:=h1.ints.form
 obtain ⟨av,cv,rfl⟩:=h2.ints.form
 have hc:∀ o u,o < 4 -> (iP cs 4 j)[o]? = some u -> W.cell? ⟨g,j * 4+o,none⟩=some u:=fun o u ho hu=>ab _ _ (by rw [<-jL ho];exact hu)
 have aa:=ad
 rw [ad] at hc
 have nG:∀ k,F j k -> ¬ G k:=hp.free j ac
 have ae:∀ k,F j k -> S k:=fun k hk=>hp.inF j k ac hk
 refine ⟨g,cap,af,av,cf,cv,cs,G,Sf,Sv,hv,ai,hG,hp.inG,⟨hc 0 _ (by omega) rfl,hc 1 _ (by omega) rfl,hc 2 _ (by omega) rfl,hc 3 _ (by omega) rfl,h1.ints,h2.ints,q1,q2⟩,aj,by rw [<-jL (by omega),aa];rfl,by rw [<-jL (by omega),aa];rfl,hp.row,h1,h2,
  fun k hk=>ae k (i1 k hk),fun k hk=>ae k (i2 k hk),ag,fun k a b=>nG k (i1 k a) b,fun k a b=>nG k (i2 k a) b,fun W' u2 u3 src vals Sf' Sv' ho hrow ha hb hab hf' hv' => ?_⟩
 have ah:Off (G.or (F j)) W W':=ho.mono fun k _ hk=>by
  rcases hk with hk | hk | hk
  ·exact .inl hk
  ·exact .inr (i1 k hk)
  exact .inr (i2 k hk)
 refine ⟨_,G,_,hp.put OPhi.nice hj { p with src:=src,vals:=vals } (Fj:=fun k=>Sf' k \/ Sv' k) ah hrow (fun i hi hne => ?_) ?_ (fun k hk => ?_) _ (fun k hk=>.inl hk) (fun k hk=>.inr hk) (fun k hk => ?_)⟩
 ·rw [gL hne (by omega),gL hne (by omega)]
 ·rw [fA (by omega),fA (by omega),aa]
  exact ⟨⟨u2,u3,Sf',Sv',rfl,ha,hb,hab,fun k h=>.inl h,fun k h=>.inr h⟩,fun k hk=>hk.elim (ha.lt k) (hb.lt k),q1,q2⟩
 ·rcases hk with hk | hk
  ·rcases hf' k hk with c | c
   ·exact .inl (i1 k c)
   exact .inr fun hs=>by have:=hp.lt k hs;omega
  rcases hv' k hk with c | c
  ·exact .inl (i2 k c)
  exact .inr fun hs=>by have:=hp.lt k hs;omega
 ·rcases hk with hk | hk | hk
  ·exact aR (hp.lt k hk) ho.size
  ·exact ha.lt k hk
  exact hb.lt k hk
theorem eR.addr {W:World} {S:Foot} {v:Value} {xs:List Int} (h:eR W S v xs) {i:Nat} {x:Int} (hi:xs[i]? = some x) :
  ∃ g cap,v = .slice (some ⟨g,0,none⟩) xs.length cap/\S g/\g < W.heap.size/\W.cell? ⟨g,i,none⟩=some (.int .i64 x)/\(∀ o,W.frozen? ⟨g,o,none⟩=false) /\ ∀ y,In64 y -> eR (W.setCell ⟨g,i,none⟩ (.int .i64 y)) S v (xs.set i y):=by
 have ab:=(aD.1 hi).1
 obtain ⟨g,cap,hv,hG, -, -,ac,aa,ad⟩:=h.1.addr (by omega)
 exact ⟨g,cap,hv,hG,ac,aa i _ (by rw [aO,hi];rfl),ad,fun y hy=>h.set hv ab hy⟩
def aC4:FuncD:=⟨[],0,0,[]⟩
theorem getD_some {α : Type} {l:List α} {i:Nat} {x d : α} (h:l[i]? = some x):l.getD i d=x:=by rw [aN,h];rfl
theorem Off.grow {S S' : Foot} {A B C:World} (h:Off S A B) (k:Off S' B C) (hs:∀ q,S' q -> S q \/ A.heap.size <= q):Off S A C :=
 ⟨k.os.trans h.os,k.tape.trans h.tape,k.output.trans h.output,bA h.size k.size,fun i hi hn=>(k.block i (aR hi h.size) fun hm=>(hs i hm).elim hn (fun h=>by omega)).trans (h.block i hi hn)⟩
theorem OFunc.zero {W:World}:OFunc W Foot.none (.agg #[.slice none 0 0,.int .i64 0,.int .i64 0,.slice none 0 0]) aC4 :=
 ⟨⟨_,_,Foot.none,Foot.none,rfl,eR.nil none,OSl.nil none,fun _ h=>h.elim,fun _ h=>h.elim,fun _ h=>h.elim⟩,fun _ h=>h.elim,⟨by decide,by decide⟩,⟨by decide,by decide⟩⟩
theorem eR.narrow {W:World} {S:Foot} {xs:List Int} {g cap n:Nat} (h:eR W S (.slice (some ⟨g,0,none⟩) n cap) xs) (hn:0 < xs.length):eR W (Foot.one g) (.slice (some ⟨g,0,none⟩) n cap) xs/\S g:=by
 obtain ⟨⟨h1,h2,h3,h4⟩,h5⟩:=h
 rcases h4 with ⟨h4,_⟩ | ⟨g',cap',aa,hv,hg,r⟩
 ·omega
 cases hv
 exact ⟨⟨⟨h1,h2,fun k hk=>by cases hk;exact h3 g hg,.inr ⟨g,cap,aa,rfl,rfl,r⟩⟩,h5⟩,hg⟩
theorem yG {w:World} {o:Oper} {a:Act} (s x:Operand)
  (ho:o.op = .call { callee:=.builtin .append,args:=#[s,x],argTypes:=#[22,22] }) {v:Value} {B:Nat} {y:Int} (hs:a.eval s=v) (hx:a.eval x = .slice (some ⟨B,0,none⟩) 1 1) {S:Foot} {xs:List Int} {n:Nat} (hn:xs.length=n)
  (H:eR w S v xs) (hB:Box w B #[.int .i64 y]) (hy:In64 y) (hlen:n+1 <= 100000) {XF:Nat -> Foot} {i:Nat} (hX:∀ k,S k -> XF i k) :
  ∃ u w'',(execOp a.eval o).run Tryz.prog w = .ok (.value u) w'' /\ (∃ g cap,u = .slice (some ⟨g,0,none⟩) (n+1) cap/\eR w'' (Foot.one g) u (xs ++ [y])/\(S g \/ w.heap.size <= g))/\Four.Step XF (fun _=>True) i w w'':=by
 obtain ⟨v',w',G',aa,r1,r2,r3, -⟩:=sJ (P:=Tryz.prog) s x 22 3 ho nK hs hx H.1 (qY (n:=1) (size:=1) (ds:=[.int .i64 y]) hB rfl (by omega)) (by intro u hu;simp at hu;subst hu;rfl) (by omega) (by omega)
 have hO:eR w' G' v' (xs ++ [y]):=by
  refine ⟨?_,fun z hz => ?_⟩
  ·rw [aI,bD];exact r1
  rcases aL.1 hz with h | h
  ·exact H.2 z h
  simp at h;subst h;exact hy
 obtain ⟨g,cap,rfl,hg, -⟩:=hO.1.addr (by simp)
 have hl:(xs ++ [y]).length=n+1:=by simp [hn]
 rw [hl] at hO aa
 obtain ⟨k1,k2⟩:=hO.narrow (by omega)
 exact ⟨_,w',aa,⟨g,cap,rfl,k1,r2 g k2⟩,r3.mono fun k _ hk=>hX k hk,fun h=>h⟩
theorem kU {w:World} {o:Oper} {a:Act} (s x:Operand)
  (ho:o.op = .call { callee:=.builtin .append,args:=#[s,x],argTypes:=#[22,22] }) {v:Value} {B:Nat} {y:Int} (hs:a.eval s=v) (hx:a.eval x = .slice (some ⟨B,0,none⟩) 1 1) {S:Foot} {xs:List Int} {n:Nat} (hn:xs.length=n)
  (H:eR w S v xs) (hB:Box w B #[.int .i64 y]) (hy:In64 y) (hlen:n+1 <= 100000) {XF:Nat -> Foot} {i:Nat} (hX:∀ k,S k -> XF i k) {Z:Value -> World -> Prop}
  (hZ:∀ g cap w'',eR w'' (Foot.one g) (.slice (some ⟨g,0,none⟩) (n+1) cap) (xs ++ [y]) -> (S g \/ w.heap.size <= g) -> Z (.slice (some ⟨g,0,none⟩) (n+1) cap) w'') :
  ∃ u w'',(execOp a.eval o).run Tryz.prog w = .ok (.value u) w'' /\ Z u w'' /\ Four.Step XF (fun _=>True) i w w'':=by
 obtain ⟨u,w'',h1,⟨g,c,e,h2,h3⟩,h4⟩:=yG (XF:=XF) (i:=i) s x ho hs hx hn H hB hy hlen hX
 subst e
 exact ⟨_,w'',h1,hZ g c w'' h2 h3,h4⟩
theorem Off.cell {S:Foot} {W W' : World} (h:Off S W W') {b o:Nat} (hl:b < W.heap.size) (hn:¬ S b):W'.cell? ⟨b,o,none⟩=W.cell? ⟨b,o,none⟩:=World.cell?_of_block (w:=W) (a:=⟨b,o,none⟩) (h.block b hl hn)
theorem aC5 {xs:List Int} {x:Int} (h:x ∈ xs):idxI xs x=(xs.idxOf x:Nat):=if_pos h
theorem mK {f:FuncD} (hc:eV f=0):(∀ x ∈ f.blocks,x.phis.length <= 100000/\x.code.length <= 100000)/\f.blocks.length <= 100000:=by
 have hf:=(eY hc).1
 have hs:=(jP hf).size
 have hn:=(gG hf).2
 refine ⟨fun x hx => ?_,by omega⟩
 have h1:gU x <= kY f:=by
  unfold kY
  have:∀ (l:List BlockD),x ∈ l -> gU x <= (l.map gU).sum/\0 <= (l.map gU).sum:=by
   intro l
   induction l with
   | nil=>intro h;cases h
   | cons y l ih =>
    intro h
    have hy:0 <= gU y:=by unfold gU;omega
    have aa:∀ (l:List BlockD),0 <= (l.map gU).sum:=by
     intro l
     induction l with
     | nil=>simp
     | cons z l ih=>have:0 <= gU z:=(by unfold gU;omega);simp only [cZ,List.sum_cons];omega
    have:=aa l
    simp only [cZ,List.sum_cons]
    rcases bR.1 h with rfl | h
    ·omega
    have:=(ih h).1;omega
  exact (this _ hx).1
 unfold gU at h1
 omega
theorem uB {α : Type} {R:World -> Foot -> List Value -> α -> Prop} (hR:Nice R) {P:Program} {w:World} {o:Oper} {a:Act} (s x:Operand) (t e:TypeId)
  (ho:o.op = .call { callee:=.builtin .append,args:=#[s,x],argTypes:=#[t,t] }) {z:Value} {size bytes:Nat} (he:Elem P t e z size bytes)
  {v:Value} {B:Nat} {ds:List Value} (hs:a.eval s=v) (hx:a.eval x = .slice (some ⟨B,0,none⟩) 1 1) {bs:List Nat} {base:Nat} {S Fn:Foot} {xs:List α} {y : α} {n:Nat} (hn:xs.length=n)
  (H:Holds bs base w S (fun W=>OSl R e size W S v xs)) (hB:Box w B ds.toArray) (hds:ds.length=size) (hel:R w Fn ds y) (hF:Fn.off S) (hFb:kC base Fn) (hbs:∀ b ∈ bs,b < base) (hbase:base <= w.heap.size)
  (h1:∀ u ∈ ds,u.oneCell' = true) (hlen:n+1 <= 17592186044416) (hbytes:(n+1) * bytes <= 140737488355328) {XF:Nat -> Foot} {i lim:Nat} (hFl:∀ k,Fn k -> lim <= k) (hl:lim <= w.heap.size) (hX:∀ k,S k -> XF i k) :
  ∃ u w'',(execOp a.eval o).run P w = .ok (.value u) w'' /\ (∃ S',Holds bs base w'' S' (fun W=>OSl R e size W S' u (xs ++ [y]))/\(∀ k,S' k -> S k \/ lim <= k) /\ ∃ g cap,u = .slice (some ⟨g,0,none⟩) (n+1) cap)/\Four.Step XF (fun _=>True) i w w'':=by
 obtain ⟨v',w',S',q0,q1,q2,q3,q4⟩:=xV hR s x t e ho he hs hx hn H hB hds hel hF hFb hbs hbase h1 hlen hbytes
 refine ⟨v',w',q0,⟨S',q1,fun k hk => ?_,q4⟩,q3.mono fun k _ hk=>hX k hk,fun h=>h⟩
 rcases q2 k hk with h | h | h
 ·exact .inl h
 ·exact .inr (hFl k h)
 ·exact .inr (by omega)
theorem OBlock.one {W:World} {S:Foot} {cs:List Value} {b:BlockD} (h:OBlock W S cs b):∀ u ∈ cs,u.oneCell' = true:=by
 obtain ⟨⟨v,u,t,S1,S2,S3,rfl,h1,h2,⟨⟨tv,rfl,h3⟩, -⟩, -⟩, -⟩:=h
 obtain ⟨a1,c1,rfl⟩:=(h1.reads (R0:=PhiR) fun _ _ _ h=>h.reads).form
 obtain ⟨a2,c2,rfl⟩:=(h2.reads (R0:=gZ) fun _ _ _ h=>h.reads).form
 obtain ⟨a3,c3,rfl⟩:=h3.ints.form
 simp [Value.oneCell']
end Go.Proofs.YtagabiidbbhhmaaGreat
