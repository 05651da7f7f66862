/- Part 41. -/
import Derived.Test.YtcmflfkpeodicaaGreatIRA40
import Derived.Test.YtcmflfkpeodicaaGreatIRA36
import Derived.Test.YtcmflfkpeodicaaGreatIRA38
namespace Go.Proofs.YtcmflfkpeodicaaGreat
set_option maxHeartbeats 6400000
set_option linter.all false
open Go.RowKit
theorem tC:Enters Tryz.prog 130:=enters_of Tryz.func130 (by kernel_rfl) rfl
set_option maxRecDepth 100000 in
theorem aHY {f:FuncD} {w:World} {bs bt bg lg lcap bm:Nat} {g:Array Value} {pv ov lv A2:Value} {O:List Nat} {I:Nat -> Option Nat} (hS:StrM f w bs bt bg lg lcap bm g pv ov lv A2 O I)
  {c:Nat} (hc:c < f.blocks.length) {b1 b2:Nat} {p:PhiD} {v:Value} (hv:PhiV w v p) (h1:Box w b1 #[.pointer (some ⟨bs,0,none⟩)]) (h2:Box w b2 #[.int .i64 c]) :
  Calls Tryz.prog 130 #[v,.pointer (some ⟨b1,0,none⟩),.pointer (some ⟨b2,0,none⟩)] w fun e w'=>e = .returned (.bool (!decide (mE p.src=natI (fO f f.blocks.length 0 c))))/\Below w.heap.size w w':=by
 obtain ⟨s,u,rfl,hs,hu⟩:=hv
 obtain ⟨n,hn⟩ : ∃ n,n=natI (fO f f.blocks.length 0 c):=⟨_,rfl⟩
 have HN:=h! hn
 rw [<-hn]
 have HSR:=h! hs
 obtain ⟨t0, -,t4, -, -⟩:=hS.t.cells
 obtain ⟨vs,pa,pc,pb,po,hpe,hpc,hpm,hpl2,hpa,hpx,hpy⟩:=hS.t.preds.parts
 have hpln:(gB f).length=f.blocks.length:=by unfold gB;rw [gR]
 obtain ⟨nb,hnb⟩ : ∃ nb,nb=f.blocks.length:=⟨_,rfl⟩
 rw [hpln, <-hnb] at hpe hpc hpa hpl2 hpx hpy
 rw [<-hnb] at hc
 obtain ⟨rfl,hpb⟩:=hpa (by omega)
 subst hpe
 have hq1:=hpx c hc
 have hq2:=hpy c hc
 obtain ⟨q,hq⟩ : ∃ q,q=vs.getD c undef:=⟨_,rfl⟩
 rw [<-hq] at hq1 hq2
 have hq3:Ints w q n:=by
  have:(gB f).getD c []=n:=by
   rw [hn,aH]
   unfold gB
   rw [jZ (by rw [<-hnb];exact hc)]
   rfl
  rw [<-this];exact hq2
 have HQ1:=h! hq1
 have HQ3:=h! hq3
 have HT0:=h! t0
 have HT4:=h! t4
 have HS:=h! hS
 obtain ⟨l1,c1,f1⟩:=h1
 obtain ⟨l2,c2,f2⟩:=h2
 have H1:=h! c1
 have H2:=h! c2
 clear hS hs hu hn t0 t4 hpl2 hpa hpx hpy hq hq1 hq2 hq3 hnb hpln f1 f2 c1 c2
 go_enter Tryz.func130,Tryz.ntmps130
 go_upto_region 1 with (fail)
 have hA_:=(Below.refl w.heap.size w).alloc (aF _) (.cells #[.int .i64 p.id,.int .i64 p.typ,s,u] 113)
 have HW:=h! hA_
 clear hA_
 have B1:=h! (Box.new w #[.int .i64 p.id,.int .i64 p.typ,s,u] 113)
 generalize w.alloc (.cells #[.int .i64 p.id,.int .i64 p.typ,s,u] 113)=wv at *
 obtain ⟨lB1,cB1,fB1⟩:=B1.out
 refine wp_region_grow 20 (fun kz=>match kz with | 2=>.holds (fun u w' => ∃ B,u = .func (.func 190) #[] #[.pointer (some ⟨B,0,none⟩)]/\Box w' B #[s]) | 3=>.holds (fun u w'=>Ints w' u (mE p.src)) | 17=>.const (.bool (decide (mE p.src=n))) | _=>.plain) (by kernel_rfl) (by kernel_rfl) ?_ (fun ν => ?_)
 ·(intro k;(try dsimp only);split <;> first | exact True.intro | (intro u w1 w2 hu hb;first | exact hu.below hb | (obtain ⟨B,h1,h2⟩:=hu;exact ⟨B,h1,h2.later hb⟩)))
 simp only [aK,aR,aM,aT]
 iterate 2 (refine Grow.val (v := ?_) rfl rfl (fun wg hbg hdg => ?_) ?_;rotate_left;(focus ((obtain ⟨lg0,cg0,fg0⟩:=B1.out.later hbg);(have hW3:=HW.out.trans (hbg.mono HW.out.size);obtain ⟨xl1,xc1,xf1⟩:=(HS.out.later hW3).s;have xt:=(hW3.cell (World.block_lt_of_cell? w _ HT0.out)).trans HT0.out;have xg:=(hW3.cell (World.block_lt_of_cell? w _ HT4.out)).trans HT4.out;have xq:=(hW3.cell (p:=⟨pb,po+c,none⟩) hpb).trans HQ1.out;have x1:=(hW3.cell (p:=⟨b1,0,none⟩) l1).trans (H1.out 0);have x2:=(hW3.cell (p:=⟨b2,0,none⟩) l2).trans (H2.out 0);simp only [List.getElem?_toArray,List.getElem?_cons_zero] at x1 x2);clear hbg hdg;first | (go_simp;done) | (go_simp;with_reducible rfl)));simp only [Act.put,aA,aC,aD])
 refine Grow.call (f := ?_) (args := ?_) rfl (fun wg => ?_) (fun wg hbg hdg => ?_) ?_
 rotate_left 2
 focus (first | (go_simp;done) | (go_simp;refine And.intro ?_ ?_ <;> with_reducible rfl) | (go_simp;with_reducible rfl))
 focus exact ((aD6 (HSR.out.below (HW.out.trans (hbg.mono HW.out.size)))).mono (fun e w2 ⟨B,he,_,hB,hw⟩=>⟨_,he,⟨B,rfl,hB⟩,hw⟩))
 simp only [Act.put,Known.val,aA,aC,aD]
 refine Grow.call (f := ?_) (args := ?_) rfl (fun wg => ?_) (fun wg hbg hdg => ?_) ?_
 rotate_left 2
 focus (first | (go_simp;done) | (go_simp;refine And.intro ?_ ?_ <;> with_reducible rfl) | (go_simp;with_reducible rfl))
 focus (have h9:=hdg 2 (by kernel_rfl);obtain ⟨B,hB1,hB2⟩:=h9;rw [hB1];exact (aD7 (HSR.out.below (HW.out.trans (hbg.mono HW.out.size))) hB2).mono (fun e w2 ⟨u,he,hN,hw⟩=>⟨_,he,hN.ints,hw⟩))
 simp only [Act.put,Known.val,aA,aC,aD]
 iterate 13 (refine Grow.val (v := ?_) rfl rfl (fun wg hbg hdg => ?_) ?_;rotate_left;(focus ((obtain ⟨lg0,cg0,fg0⟩:=B1.out.later hbg);(have hW3:=HW.out.trans (hbg.mono HW.out.size);obtain ⟨xl1,xc1,xf1⟩:=(HS.out.later hW3).s;have xt:=(hW3.cell (World.block_lt_of_cell? w _ HT0.out)).trans HT0.out;have xg:=(hW3.cell (World.block_lt_of_cell? w _ HT4.out)).trans HT4.out;have xq:=(hW3.cell (p:=⟨pb,po+c,none⟩) hpb).trans HQ1.out;have x1:=(hW3.cell (p:=⟨b1,0,none⟩) l1).trans (H1.out 0);have x2:=(hW3.cell (p:=⟨b2,0,none⟩) l2).trans (H2.out 0);simp only [List.getElem?_toArray,List.getElem?_cons_zero] at x1 x2);clear hbg hdg;first | (go_simp;done) | (go_simp;with_reducible rfl)));simp only [Act.put,aA,aC,aD])
 refine Grow.call (f := ?_) (args := ?_) rfl (fun wg => ?_) (fun wg hbg hdg => ?_) ?_
 rotate_left 2
 focus (first | (go_simp;done) | (go_simp;refine And.intro ?_ ?_ <;> with_reducible rfl) | (go_simp;with_reducible rfl))
 focus (have h9:=hdg 3 (by kernel_rfl);exact (aHP h9 (HQ3.out.below (HW.out.trans (hbg.mono HW.out.size)))).mono (fun e w2 ⟨he,hw⟩=>⟨_,he,rfl,hw⟩))
 simp only [Act.put,Known.val,aA,aC,aD]
 iterate 2 (refine Grow.val (v := ?_) rfl rfl (fun wg hbg hdg => ?_) ?_;rotate_left;(focus ((obtain ⟨lg0,cg0,fg0⟩:=B1.out.later hbg);(have hW3:=HW.out.trans (hbg.mono HW.out.size);obtain ⟨xl1,xc1,xf1⟩:=(HS.out.later hW3).s;have xt:=(hW3.cell (World.block_lt_of_cell? w _ HT0.out)).trans HT0.out;have xg:=(hW3.cell (World.block_lt_of_cell? w _ HT4.out)).trans HT4.out;have xq:=(hW3.cell (p:=⟨pb,po+c,none⟩) hpb).trans HQ1.out;have x1:=(hW3.cell (p:=⟨b1,0,none⟩) l1).trans (H1.out 0);have x2:=(hW3.cell (p:=⟨b2,0,none⟩) l2).trans (H2.out 0);simp only [List.getElem?_toArray,List.getElem?_cons_zero] at x1 x2);clear hbg hdg;first | (go_simp;done) | (go_simp;with_reducible rfl)));simp only [Act.put,aA,aC,aD])
 intro wg hb hf hap
 clear hap
 clear lB1 cB1 fB1
 replace B1:=h! (B1.out.later hb)
 replace HW:=h! (HW.out.trans (hb.mono HW.out.size))
 clear hb
 obtain ⟨lB1,cB1,fB1⟩:=B1.out
 clear hf
 go_wp2
 go_ret
 exact ⟨rfl,HW.out⟩
def wN (f:FuncD) (c:Nat) (x:BlockD) (w:World) (e:Ending) (w' : World):Prop:=e = .returned (.bool (x.phis.all (fJ (natI (fO f f.blocks.length 0 c)))))/\Below w.heap.size w w'
theorem wO (f:FuncD) (n c:Nat):Rise (natI (fO f n 0 c)):=by
 rw [gJ]
 unfold natI Rise
 rw [List.pairwise_map]
 refine List.Pairwise.imp ?_ (List.Pairwise.filter _ List.pairwise_lt_range)
 intro a b h
 omega
theorem pQ {xs:List Int} (h:Rise xs):xs.Nodup:=by
 unfold Rise at h
 unfold List.Nodup
 refine h.imp ?_
 intro a b h e
 omega
theorem uK:∀ (S K:List Int),S.Nodup -> (∀ x ∈ S,x ∈ K) -> S.length <= K.length
 | [],K,_,_=>aP _
 | x :: S,K,h,hk=>by
  rw [eI] at h
  have h1:=uK S (K.erase x) h.2 (fun y hy=>by
   have hne:y ≠ x:=fun e=>h.1 (e ▸ hy)
   exact (List.mem_erase_of_ne hne).2 (hk y (cL _ hy)))
  have h2:=hk x dG
  rw [List.length_erase_of_mem h2] at h1
  have:=List.length_pos_of_mem h2
  rw [bB];omega
theorem aBO {f:FuncD} (h:gM f=true) {c:Nat} {x:BlockD} (hx:f.blocks[c]? = some x):(c=0 -> x.phis=[])/\(∀ p ∈ x.phis,iR f.blocks.length p=true)/\(∀ y ∈ x.code,fQ f.arrays f.cells y=true)/\gS f.blocks.length x.term=true:=by
 unfold gM at h
 simp only [aN,aZ] at h
 have hok:=h.2 (x,c) (by rw [bS];exact hx)
 unfold fN at hok
 simp only [aN,aZ] at hok
 refine ⟨fun h0 => ?_,hok.1.1.2,hok.1.2,hok.2⟩
 have h1:=hok.1.1.1
 simp [h0] at h1
 exact h1
theorem rH {nb:Nat} {p:PhiD} (h:iR nb p=true):p.src.Nodup:=by
 unfold iR at h
 simp only [aN,decide_eq_true_eq] at h
 exact h.2
theorem tD {p:PhiD} {xs:List Int} (hs:p.src.Nodup) (hx:Rise xs):fJ xs p=decide (mE p.src=xs):=by
 rw [cC,decide_eq_true_iff]
 unfold fJ
 rw [aN,decide_eq_true_iff,aZ]
 constructor
 ·rintro ⟨hl,hm⟩
  refine uQ (wQ hs) hx fun x => ?_
  rw [(iZ p.src).mem_iff]
  have hsub:∀ y ∈ xs,y ∈ p.src:=fun y hy=>by have:=hm y hy;simpa using this
  refine ⟨fun h => ?_,hsub x⟩
  refine Classical.byContradiction fun hno => ?_
  have h1:=uK (x :: xs) p.src (eI.2 ⟨hno,pQ hx⟩) (fun y hy=>by
   rcases bM.1 hy with rfl | hy
   ·exact h
   exact hsub y hy)
  rw [bB] at h1
  omega
 rintro rfl
 refine ⟨(iZ p.src).length_eq.symm,fun y hy => ?_⟩
 simpa using (iZ p.src).mem_iff.1 hy
set_option maxRecDepth 100000 in
theorem aHZ {f:FuncD} {w:World} {bs bt bg lg lcap bm:Nat} {ap ab:Option Addr} {np cp cb:Nat} {ar ce:Int} {pv ov lv A2:Value} {O:List Nat} {I:Nat -> Option Nat}
  (hS:StrM f w bs bt bg lg lcap bm #[.slice ap np cp,.int .i64 ar,.int .i64 ce,.slice ab f.blocks.length cb] pv ov lv A2 O I) (hB:eQ gF 6 w (.slice ab f.blocks.length cb) f.blocks) (hc:eL f=0)
  {c:Nat} {x:BlockD} (hx:f.blocks[c]? = some x) :
  Calls Tryz.prog 77 #[.pointer (some ⟨bs,0,none⟩),.int .i64 c] w (wN f c x w):=by
 have HS:=h! hS
 have HX:=h! hx
 have hcl:=(aE.1 hx).1
 obtain ⟨a2,c2,bb,bo,hbe,hbc,hbm,hbl,hba,hbx⟩:=eW hB
 cases hbe
 obtain ⟨rfl,hbw⟩:=hba (by omega)
 obtain ⟨api,aii,ati,cpi,cii,cti,hC⟩:=hbx c x hx
 have HC:=h! hC
 have HPH:=h! hC.phis
 have HCL:=h! hcl
 have HT0:=h! hS.t.cells.1
 have HG3:Hid (w.cell? ⟨bg,3,none⟩=some (.slice (some ⟨bb,bo,none⟩) f.blocks.length cb)):=h! (hS.t.graph.at 3 rfl)
 have HTL:=h! hS.t.tree.lt
 have HGL:=h! hS.t.graph.lt
 obtain ⟨n,hn⟩ : ∃ n,n=natI (fO f f.blocks.length 0 c):=⟨_,rfl⟩
 have HN:=h! hn
 have HALL:Hid ((!x.phis.any fun p => !decide (mE p.src=n))=x.phis.all (fJ n)):=h! (by
  have hk:=(aBO (eS hc).1 hx).2.1
  have hr:Rise n:=by rw [hn];exact wO f _ c
  have hall:∀ ps:List PhiD,(∀ p ∈ ps,iR f.blocks.length p=true) -> (!ps.any fun p => !decide (mE p.src=n))=ps.all (fJ n):=by
   intro ps
   induction ps with
   | nil=>intro _;rfl
   | cons p ps ih =>
    intro h
    rw [List.any_cons,List.all_cons, <-ih (fun q hq=>h q (cL _ hq)),tD (rH (h p dG)) hr,Bool.not_or,Bool.not_not]
  exact hall _ hk)
 obtain ⟨nb,hnb⟩ : ∃ nb,nb=f.blocks.length:=⟨_,rfl⟩
 have HNB:=h! hnb
 rw [<-hnb] at hcl HG3
 have hnb32:nb <= 17592186044416:=by rw [hnb];exact hbl
 clear hS hB hc hx hC hba hbx hn hnb hbl hbc hbm
 go_enter Tryz.func77,Tryz.ntmps77
 go_upto_region 1 with (fail)
 have hA_:=(Below.refl w.heap.size w).alloc (aF _) (.cells #[.pointer (some ⟨bs,0,none⟩)] 70)
 have HW:=h! hA_
 clear hA_
 have B1:=h! (Box.new w #[.pointer (some ⟨bs,0,none⟩)] 70)
 have hz0_:(w.alloc (.cells #[.pointer (some ⟨bs,0,none⟩)] 70)).heap.size=w.heap.size+1:=World.size_alloc _ _
 generalize w.alloc (.cells #[.pointer (some ⟨bs,0,none⟩)] 70)=wv0 at *
 have hA_:=(Below.refl wv0.heap.size wv0).alloc (aF _) (.cells #[.int .i64 c] 3)
 replace B1:=h! (B1.out.later hA_)
 replace HW:=h! (HW.out.trans (hA_.mono HW.out.size))
 clear hA_
 have B2:=h! (Box.new wv0 #[.int .i64 c] 3)
 rw [hz0_] at B2
 clear hz0_
 generalize wv0.alloc (.cells #[.int .i64 c] 3)=wv at *
 obtain ⟨lB1,cB1,fB1⟩:=B1.out
 obtain ⟨lB2,cB2,fB2⟩:=B2.out
 refine wp_region_grow 19 (fun kz=>match kz with | 16=>.const (.bool (x.phis.any fun p => !decide (mE p.src=n))) | _=>.plain) (by kernel_rfl) (by kernel_rfl) ?_ (fun ν => ?_)
 ·(intro k;(try dsimp only);split <;> first | exact True.intro | (intro u w1 w2 hu hb;exact hu.below hb))
 simp only [aK,aR,aM,aT]
 iterate 16 (refine Grow.val (v := ?_) rfl rfl (fun wg hbg hdg => ?_) ?_;rotate_left;(focus ((obtain ⟨lg0,cg0,fg0⟩:=B1.out.later hbg);(obtain ⟨lg1,cg1,fg1⟩:=B2.out.later hbg);(have hW3:=HW.out.trans (hbg.mono HW.out.size);obtain ⟨xl1,xc1,xf1⟩:=(HS.out.later hW3).s;have xt:=(hW3.cell (p:=⟨bt,0,none⟩) HTL.out).trans HT0.out;have xg:=(hW3.cell (p:=⟨bg,3,none⟩) HGL.out).trans HG3.out;obtain ⟨k0,k1,k2,k3,k4,k5, -, -, -, -, -, -⟩:=HC.out.below hW3 hbw);clear hbg hdg;first | (go_simp;done) | (go_simp;with_reducible rfl)));simp only [Act.put,aA,aC,aD])
 refine Grow.call (f := ?_) (args := ?_) rfl (fun wg => ?_) (fun wg hbg hdg => ?_) ?_
 rotate_left 2
 focus (first | (go_simp;done) | (go_simp;refine And.intro ?_ ?_ <;> with_reducible rfl) | (go_simp;with_reducible rfl))
 focus (have hW3:=HW.out.trans (hbg.mono HW.out.size);exact (aCV tC (fun p => !decide (mE p.src=n)) (HPH.out.below PhiR.lasting hW3) (fun W p pv hp hpv hW=>by have hW4:=hW3.trans (hW.mono hW3.size);have h9:=aHY (HS.out.later hW4) HCL.out hpv (B1.out.later (hbg.trans (hW.mono hbg.size))) (B2.out.later (hbg.trans (hW.mono hbg.size)));rw [<-HN.out] at h9;exact h9)).mono (fun e w2 ⟨he,hw⟩=>⟨_,he,rfl,hw⟩))
 simp only [Act.put,Known.val,aA,aC,aD]
 iterate 2 (refine Grow.val (v := ?_) rfl rfl (fun wg hbg hdg => ?_) ?_;rotate_left;(focus ((obtain ⟨lg0,cg0,fg0⟩:=B1.out.later hbg);(obtain ⟨lg1,cg1,fg1⟩:=B2.out.later hbg);(have hW3:=HW.out.trans (hbg.mono HW.out.size);obtain ⟨xl1,xc1,xf1⟩:=(HS.out.later hW3).s;have xt:=(hW3.cell (p:=⟨bt,0,none⟩) HTL.out).trans HT0.out;have xg:=(hW3.cell (p:=⟨bg,3,none⟩) HGL.out).trans HG3.out;obtain ⟨k0,k1,k2,k3,k4,k5, -, -, -, -, -, -⟩:=HC.out.below hW3 hbw);clear hbg hdg;first | (go_simp;done) | (go_simp;with_reducible rfl)));simp only [Act.put,aA,aC,aD])
 intro wg hb hf hap
 clear hap
 clear lB1 cB1 fB1 lB2 cB2 fB2
 replace B1:=h! (B1.out.later hb)
 replace B2:=h! (B2.out.later hb)
 replace HW:=h! (HW.out.trans (hb.mono HW.out.size))
 clear hb
 obtain ⟨lB1,cB1,fB1⟩:=B1.out
 obtain ⟨lB2,cB2,fB2⟩:=B2.out
 clear hf
 go_wp2
 go_ret
 refine ⟨?_,HW.out⟩
 rw [<-HN.out, <-HALL.out]
 rfl
theorem uL {f:FuncD} (hc:eL f=0) {ids:List Int} (hm:∀ id,id ∈ (eR f).map (·.1) -> id ∈ ids) {u:Int × Int} (hu:u ∈ jD f):u.1 ∈ ids:=by
 unfold jD at hu
 rw [bK] at hu
 obtain ⟨x,hx,hu⟩:=hu
 obtain ⟨h1, -⟩:=(gW.1 hc).2.2.2.2 x hx u hu
 refine hm _ (Classical.byContradiction fun hn => ?_)
 rw [jS.2 hn] at h1
 simp at h1
theorem aBP {f:FuncD} (hc:eL f=0) {b:BlockD} (hb:b ∈ f.blocks) {x:InstrD} (hx:x ∈ b.code) {y:Int} (hy:y ∈ x.args):∃ t,(y,t) ∈ jD f:=by
 have hl:=(uZ hc hb hx).args
 obtain ⟨i,hi⟩:=bP hy
 have hil:=(aE.1 hi).1
 refine ⟨(shp0 x.op).args[i]'(by omega), ?_⟩
 unfold jD
 rw [bK]
 refine ⟨b,hb, ?_⟩
 unfold mZ
 rw [aO,aO]
 left;right
 rw [bK]
 refine ⟨x,hx, ?_⟩
 unfold oW
 refine aG (i:=i) ?_
 rw [cT]
 exact ⟨hi,aB (by omega)⟩
theorem wP {f:FuncD} {b:BlockD} (hb:b ∈ f.blocks) (h:b.term.op=3):(b.term.val,0) ∈ jD f:=by
 unfold jD
 rw [bK]
 refine ⟨b,hb, ?_⟩
 unfold mZ oX
 rw [aO,if_neg (by omega),if_pos h]
 right
 simp
theorem aF6 {f:FuncD} {ids:List Int} (hm:∀ id,id ∈ (eR f).map (·.1) -> id ∈ ids) {id t:Int} (h:tyOf (eR f) id=some t):id ∈ ids:=hm _ (aY.2 ⟨_,qU h,rfl⟩)
theorem aBQ {ids:List Int} (hr:Rise ids) (s:RunS) {id:Int} {j:Nat} (hj:ids[j]? = some id) (y:Int):(ids.map s.vals).set j y=ids.map (setV s id y).vals:=by
 apply bN
 intro i
 rw [aU]
 by_cases e:j=i
 ·subst e
  have hjl:=(aE.1 hj).1
  rw [List.getElem?_set_self (by rw [bD];exact hjl),hj]
  show some y=some (if id=id then y else s.vals id)
  rw [if_pos rfl]
 rw [List.getElem?_set_ne e,aU]
 cases hi:ids[i]? with
 | none=>rfl
 | some q =>
  show some (s.vals q)=some (if q=id then y else s.vals q)
  rw [if_neg]
  intro hq
  subst hq
  exact e ((List.getElem?_inj (aE.1 hj).1 (pQ hr)).1 (hj.trans hi.symm))
theorem RefP.setv {c:RefC} {W:World} {b:Nat} {s:RunS} {o:OverD} {dead:Bool} {ov av vv xv cv:Value} {F:Nat -> Foot} (hp:RefP c W b s o dead ov av vv xv cv F) (hr:Rise c.ids) {id:Int} {j:Nat} (hj:c.ids[j]? = some id) {y:Int} (hy:In64 y) :
  ∃ g cap,xv = .slice (some ⟨g,0,none⟩) c.ids.length cap/\F 4 g/\g < W.heap.size/\W.cell? ⟨g,j,none⟩=some (.int .i64 (s.vals id))/\W.frozen? ⟨g,j,none⟩=false/\RefP c (W.setCell ⟨g,j,none⟩ (.int .i64 y)) b (setV s id y) o dead ov av vv xv cv F:=by
 have hmj:(c.ids.map s.vals)[j]? = some (s.vals id):=by rw [aU,hj];rfl
 obtain ⟨g,cap,hxv,hG,hgl,hcell,hfr,hset⟩:=hp.val.addr hmj
 rw [bD] at hxv
 refine ⟨g,cap,hxv,hG,hgl,hcell,hfr j, ?_⟩
 have h9:=hset y hy
 rw [aBQ hr s hj y] at h9
 have h8:=hp.turn 4 (by omega) (by omega) (s':=setV s id y) (G:=F 4) ((Off.set W ⟨g,j,none⟩ (.int .i64 y)).mono fun k _ hk=>by cases hk;exact hG) (fun k hk=>.inl hk) (aJ (hp.base 4 g hG) (bG hgl)) ⟨rfl,rfl⟩ (by rw [if_neg (by omega)];rfl) (by rw [if_neg (by omega)];rfl) (by rw [if_neg (by omega)];rfl) (by
  rw [if_pos rfl]
  refine ⟨h9,fun i => ?_⟩
  show In64 (if i=id then y else s.vals i)
  split
  ·exact hy
  exact hp.v64 i) (by rw [if_neg (by omega)];rfl)
 rwa [oD] at h8
theorem RefP.arr64 {c:RefC} {W:World} {b:Nat} {s:RunS} {o:OverD} {dead:Bool} {ov av vv xv cv:Value} {F:Nat -> Foot} (h:RefP c W b s o dead ov av vv xv cv F):∀ a ∈ s.arrays, ∀ x ∈ a,In64 x:=fun a ha x hx=>by
 obtain ⟨i,hi⟩:=bP ha
 obtain ⟨_,_,_,_,_,_,_,_,hints,_⟩:=h.arr.open hi
 exact hints.2 x hx
def EnvR (c:RefC) (f:FuncD) (W:World):Prop := ∃ w0:World,w0.heap.size=c.base/\Below c.base w0 W/\eQ gF 6 w0 c.fb f.blocks/\Ints w0 c.iv c.ids
theorem EnvR.later {c:RefC} {f:FuncD} {W W' : World} (h:EnvR c f W) (hb:Below c.base W W'):EnvR c f W':=by
 obtain ⟨w0,h1,h2,h3⟩:=h
 exact ⟨w0,h1,h2.trans hb,h3⟩
def aC5 (c:RefC) (w:World) (b b7:Nat) (D:Foot) (A7:Array Value) (W:World) (s:RunS):Prop :=
 ∃ D',RefM c W b D' s ⟨0,0,0⟩ false/\Off D w W/\(∀ k,D' k -> D k \/ w.heap.size <= k) /\ ¬ D' b7/\Box W b7 A7
theorem yR {L:List Int} (hn:L.Nodup) {x:Int} (hx:x ∈ L) {k:Nat} (hk:k < L.length):L.getD k 0=x ↔ k=L.idxOf x:=by
 have h1:=cY hx
 have h2:L[L.idxOf x]? = some x:=by rw [aB h1,List.getElem_idxOf h1]
 rw [aH,aB hk,dA]
 constructor
 ·intro h
  exact (List.getElem?_inj hk hn).1 (by rw [aB hk,h,h2])
 rintro rfl
 exact List.getElem_idxOf h1
end Go.Proofs.YtcmflfkpeodicaaGreat
