/- Part 57. -/
import Derived.Test.YtagabiidbbhhmaaGreatEC55
import Derived.Test.YtagabiidbbhhmaaGreatEC53
namespace Go.Proofs.YtagabiidbbhhmaaGreat
set_option maxHeartbeats 6400000
set_option linter.all false
section
open Go.RowKit Go.Shelf
theorem aAL {f:FuncD} (h:eQ f=0) (id:Int):((tyOf (eN f) id).getD 0 == 0) = !(tyOf (eN f) id).isSome:=by
 cases ht:tyOf (eN f) id with
 | none=>rfl
 | some t =>
  have h1:=wQ (eW h).1 (nT ht)
  simp only at h1
  have h2:t ≠ 0:=by omega
  simp [h2]
theorem aFB {a b:Int} (hb:In64 b):∀ v,In64 v -> In64 (jZ a b v):=fun v hv=>by unfold jZ;split;exact hb;exact hv
theorem aFC {W:World} {B:Nat} {a b:Int} (h:Box W B #[.int .i64 a,.int .i64 b]):ToOk (.slice (some ⟨B,0,none⟩) 1 1) (jZ a b) W:=by
 have e:toP [(a,b)]=jZ a b:=funext (aDU a b)
 rw [<-e]
 exact ToOk.of_row (tA (ds:=[.int .i64 a,.int .i64 b]) h rfl (by omega)) (by simp)
set_option maxHeartbeats 1200000 in
set_option maxRecDepth 100000 in
theorem wP {w:World} {v:Value} {f:FuncD} {a b:Int} (hv:fO w v f) (ha64:In64 a) (hb64:In64 b):Calls Tryz.prog 18 #[v,.int .i64 a,.int .i64 b] w (aFI f a b w):=by
 have HV:=h! hv
 obtain ⟨ap,cp,ab,cb,rfl,hp,ha,hc,hB⟩:=hv.form
 obtain ⟨a2,c2,bb,bo,hbe,hbc,hbm,hbl,hba,hbx⟩:=eT hB
 cases hbe
 obtain ⟨np,hnp⟩ : ∃ np,np=f.params.length:=⟨_,rfl⟩
 obtain ⟨ar,har⟩ : ∃ ar,ar=f.arrays:=⟨_,rfl⟩
 obtain ⟨ce,hce⟩ : ∃ ce,ce=f.cells:=⟨_,rfl⟩
 obtain ⟨nb,hnb⟩ : ∃ nb,nb=f.blocks.length:=⟨_,rfl⟩
 rw [<-hnb, <-hnp, <-har, <-hce] at HV
 rw [<-hnb] at hbc hba hbl
 rw [<-hnb, <-hnp, <-har, <-hce]
 have HNB:=h! hnb
 have HNP:=h! hnp
 have HAC:Hid (ar=f.arrays/\ce=f.cells):=h! ⟨har,hce⟩
 have H64:=h! (And.intro ha64 hb64)
 have HBA:=h! hba
 have HBX:=h! hbx
 clear hp ha hc hB hv hbx hnp hnb hba har hce ha64 hb64
 go_enter Tryz.func18,Tryz.ntmps18
 go_upto_region 1 with (fail)
 have hA_:=(Below.refl w.heap.size w).alloc (aA _) (.cells #[.slice ap np cp,.int .i64 ar,.int .i64 ce,.slice ab nb cb] 25)
 have HW:=h! hA_
 clear hA_
 have B1:=h! (Box.new w #[.slice ap np cp,.int .i64 ar,.int .i64 ce,.slice ab nb cb] 25)
 have hz0_:(w.alloc (.cells #[.slice ap np cp,.int .i64 ar,.int .i64 ce,.slice ab nb cb] 25)).heap.size=w.heap.size+1:=World.size_alloc _ _
 generalize w.alloc (.cells #[.slice ap np cp,.int .i64 ar,.int .i64 ce,.slice ab nb cb] 25)=wv0 at *
 have hA_:=(Below.refl wv0.heap.size wv0).alloc (aA _) (.cells #[.slice none 0 0,.int .i64 0,.int .i64 0,.slice none 0 0] 25)
 replace B1:=h! (B1.out.later hA_)
 replace HW:=h! (HW.out.trans (hA_.mono HW.out.size))
 clear hA_
 have B2:=h! (Box.new wv0 #[.slice none 0 0,.int .i64 0,.int .i64 0,.slice none 0 0] 25)
 rw [hz0_] at B2
 clear hz0_
 generalize wv0.alloc (.cells #[.slice none 0 0,.int .i64 0,.int .i64 0,.slice none 0 0] 25)=wv at *
 obtain ⟨lB1,cB1,fB1⟩:=B1.out
 obtain ⟨lB2,cB2,fB2⟩:=B2.out
 go_wp2_with fail
 refine (xP (HV.out.below HW.out)).mono ?_
 rintro e w1 ⟨bq,g,rfl,h1,h2,hb⟩
 have HS:=h! (SErr.of_check h1 h2)
 clear h1 h2
 clear lB1 cB1 fB1 lB2 cB2 fB2
 replace B1:=h! (B1.out.later hb)
 replace B2:=h! (B2.out.later hb)
 replace HW:=h! (HW.out.trans (hb.mono HW.out.size))
 clear hb
 obtain ⟨lB1,cB1,fB1⟩:=B1.out
 obtain ⟨lB2,cB2,fB2⟩:=B2.out
 by_cases hg:g=0
 rotate_left
 ·have HWHY:Hid (lW f a b jF g):=h! ⟨g,HS.out,.inl ⟨hg,rfl,rfl⟩⟩
  have hc1:(g != 0)=true:=by simpa using hg
  clear hg
  go_wp2
  clear lB1 cB1 fB1 lB2 cB2 fB2
  have hO_:=((((Only.set w1 (w.heap.size+1) 0 (.slice none 0 0)).put 1 (.int .i64 0)).put 2 (.int .i64 0)).put 3 (.slice none 0 0))
  replace B1:=h! (B1.out.only hO_ (by first | assumption | (simp;done) | omega))
  replace HW:=h! (hO_.2.2 HW.out (by first | assumption | omega | (have:=HW.out.size;omega) | (simp;done) | (simp;omega)))
  replace B2:=h! (Box.to (A':=#[(.slice none 0 0),(.int .i64 0),(.int .i64 0),(.slice none 0 0)]) ((((B2.out.set 0 (.slice none 0 0)).set 1 (.int .i64 0)).set 2 (.int .i64 0)).set 3 (.slice none 0 0)) (by first | rfl | simp))
  clear hO_
  generalize ((((w1.setCell ⟨w.heap.size+1,0,none⟩ (.slice none 0 0)).setCell ⟨w.heap.size+1,1,none⟩ (.int .i64 0)).setCell ⟨w.heap.size+1,2,none⟩ (.int .i64 0)).setCell ⟨w.heap.size+1,3,none⟩ (.slice none 0 0))=wz at *
  obtain ⟨lB1,cB1,fB1⟩:=B1.out
  obtain ⟨lB2,cB2,fB2⟩:=B2.out
  refine bodyPost_ret (v:=.tuple #[.agg #[.slice none 0 0,.int .i64 0,.int .i64 0,.slice none 0 0],.int .i64 g]) (by simp [results,Tryz.results18,go_sem, *]) rfl ⟨jF,g,_,Foot.none,HWHY.out,rfl,OFunc.zero,fun _ h=>h.elim,HW.out⟩
 subst hg
 have HS0:Hid (SErr f 0):=HS
 have HC0:Hid (eQ f=0):=h! HS.out.zero.1
 have HSZ:=h! (mC HC0.out)
 obtain ⟨va,hva⟩ : ∃ va,va=(tyOf (eN f) a).getD 0:=⟨_,rfl⟩
 obtain ⟨vb,hvb⟩ : ∃ vb,vb=(tyOf (eN f) b).getD 0:=⟨_,rfl⟩
 have HTA:Hid (∀ W,Below w.heap.size w W -> Calls Tryz.prog 51 #[.agg #[.slice ap np cp,.int .i64 ar,.int .i64 ce,.slice ab nb cb],.int .i64 a] W fun e w'=>e = .returned (.int .i64 va)/\Below W.heap.size W w'):=h! (fun W hb=>by rw [hva];exact rR (HV.out.below hb) (eW HC0.out).1 a)
 have HTB:Hid (∀ W,Below w.heap.size w W -> Calls Tryz.prog 51 #[.agg #[.slice ap np cp,.int .i64 ar,.int .i64 ce,.slice ab nb cb],.int .i64 b] W fun e w'=>e = .returned (.int .i64 vb)/\Below W.heap.size W w'):=h! (fun W hb=>by rw [hvb];exact rR (HV.out.below hb) (eW HC0.out).1 b)
 have HVA:Hid (va=(tyOf (eN f) a).getD 0/\(va == 0) = !(tyOf (eN f) a).isSome):=h! ⟨hva,by rw [hva];exact aAL HC0.out a⟩
 have HVB:Hid (vb=(tyOf (eN f) b).getD 0/\(vb == 0) = !(tyOf (eN f) b).isSome):=h! ⟨hvb,by rw [hvb];exact aAL HC0.out b⟩
 clear hva hvb
 go_upto_region 4 with (fail)
 refine wp_region_grow 8 (fun kz=>match kz with | 2=>.const (.int .i64 va) | 5=>.const (.int .i64 vb) | _=>.plain) (by kernel_rfl) (by kernel_rfl) ?_ (fun ν => ?_)
 ·(intro k;(try dsimp only);split <;> first | exact True.intro | (intro u w1 w2 hu hb;exact hu.below hb))
 simp only [aO,aV,aS,aX]
 iterate 2 (refine Grow.val (v := ?_) rfl rfl (fun wg hbg hdg => ?_) ?_;rotate_left;(focus ((obtain ⟨lg0,cg0,fg0⟩:=B1.out.later hbg);(obtain ⟨lg1,cg1,fg1⟩:=B2.out.later hbg);clear hbg hdg;first | (go_simp;done) | (go_simp;with_reducible rfl)));simp only [Act.put,aB,aE,aF])
 refine Grow.call (f := ?_) (args := ?_) rfl (fun wg => ?_) (fun wg hbg hdg => ?_) ?_
 rotate_left 2
 focus (first | (go_simp;done) | (go_simp;refine And.intro ?_ ?_ <;> with_reducible rfl) | (go_simp;with_reducible rfl))
 focus exact Calls.mono (HTA.out wg (HW.out.trans (hbg.mono HW.out.size))) (fun e w2 ⟨he,hb2⟩=>⟨_,he,rfl,hb2⟩)
 simp only [Act.put,Known.val,aB,aE,aF]
 iterate 2 (refine Grow.val (v := ?_) rfl rfl (fun wg hbg hdg => ?_) ?_;rotate_left;(focus ((obtain ⟨lg0,cg0,fg0⟩:=B1.out.later hbg);(obtain ⟨lg1,cg1,fg1⟩:=B2.out.later hbg);clear hbg hdg;first | (go_simp;done) | (go_simp;with_reducible rfl)));simp only [Act.put,aB,aE,aF])
 refine Grow.call (f := ?_) (args := ?_) rfl (fun wg => ?_) (fun wg hbg hdg => ?_) ?_
 rotate_left 2
 focus (first | (go_simp;done) | (go_simp;refine And.intro ?_ ?_ <;> with_reducible rfl) | (go_simp;with_reducible rfl))
 focus exact Calls.mono (HTB.out wg (HW.out.trans (hbg.mono HW.out.size))) (fun e w2 ⟨he,hb2⟩=>⟨_,he,rfl,hb2⟩)
 simp only [Act.put,Known.val,aB,aE,aF]
 iterate 2 (refine Grow.val (v := ?_) rfl rfl (fun wg hbg hdg => ?_) ?_;rotate_left;(focus ((obtain ⟨lg0,cg0,fg0⟩:=B1.out.later hbg);(obtain ⟨lg1,cg1,fg1⟩:=B2.out.later hbg);clear hbg hdg;first | (go_simp;done) | (go_simp;with_reducible rfl)));simp only [Act.put,aB,aE,aF])
 intro wg hb hf hap
 clear hap
 clear lB1 cB1 fB1 lB2 cB2 fB2
 replace B1:=h! (B1.out.later hb)
 replace B2:=h! (B2.out.later hb)
 replace HW:=h! (HW.out.trans (hb.mono HW.out.size))
 clear hb
 obtain ⟨lB1,cB1,fB1⟩:=B1.out
 obtain ⟨lB2,cB2,fB2⟩:=B2.out
 clear hf
 cases hqa:(va == 0)
 rotate_left
 ·have HWHY:Hid (lW f a b jF 9):=h! ⟨0,HS0.out,.inr ⟨rfl,by unfold pL;rw [if_pos (.inl (by have:=HVA.out.2;rw [hqa] at this;simpa using this.symm))]⟩⟩
  go_wp2
  clear lB1 cB1 fB1 lB2 cB2 fB2
  have hO_:=((((Only.set wg (w.heap.size+1) 0 (.slice none 0 0)).put 1 (.int .i64 0)).put 2 (.int .i64 0)).put 3 (.slice none 0 0))
  replace B1:=h! (B1.out.only hO_ (by first | assumption | (simp;done) | omega))
  replace HW:=h! (hO_.2.2 HW.out (by first | assumption | omega | (have:=HW.out.size;omega) | (simp;done) | (simp;omega)))
  replace B2:=h! (Box.to (A':=#[(.slice none 0 0),(.int .i64 0),(.int .i64 0),(.slice none 0 0)]) ((((B2.out.set 0 (.slice none 0 0)).set 1 (.int .i64 0)).set 2 (.int .i64 0)).set 3 (.slice none 0 0)) (by first | rfl | simp))
  clear hO_
  generalize ((((wg.setCell ⟨w.heap.size+1,0,none⟩ (.slice none 0 0)).setCell ⟨w.heap.size+1,1,none⟩ (.int .i64 0)).setCell ⟨w.heap.size+1,2,none⟩ (.int .i64 0)).setCell ⟨w.heap.size+1,3,none⟩ (.slice none 0 0))=wz at *
  obtain ⟨lB1,cB1,fB1⟩:=B1.out
  obtain ⟨lB2,cB2,fB2⟩:=B2.out
  refine bodyPost_ret (v:=.tuple #[.agg #[.slice none 0 0,.int .i64 0,.int .i64 0,.slice none 0 0],.int .i64 9]) (by simp [results,Tryz.results18,go_sem, *]) rfl ⟨jF,9,_,Foot.none,HWHY.out,rfl,OFunc.zero,fun _ h=>h.elim,HW.out⟩
 cases hqb:(vb == 0)
 rotate_left
 ·have HWHY:Hid (lW f a b jF 9):=h! ⟨0,HS0.out,.inr ⟨rfl,by unfold pL;rw [if_pos (.inr (by have:=HVB.out.2;rw [hqb] at this;simpa using this.symm))]⟩⟩
  go_wp2
  clear lB1 cB1 fB1 lB2 cB2 fB2
  have hO_:=((((Only.set wg (w.heap.size+1) 0 (.slice none 0 0)).put 1 (.int .i64 0)).put 2 (.int .i64 0)).put 3 (.slice none 0 0))
  replace B1:=h! (B1.out.only hO_ (by first | assumption | (simp;done) | omega))
  replace HW:=h! (hO_.2.2 HW.out (by first | assumption | omega | (have:=HW.out.size;omega) | (simp;done) | (simp;omega)))
  replace B2:=h! (Box.to (A':=#[(.slice none 0 0),(.int .i64 0),(.int .i64 0),(.slice none 0 0)]) ((((B2.out.set 0 (.slice none 0 0)).set 1 (.int .i64 0)).set 2 (.int .i64 0)).set 3 (.slice none 0 0)) (by first | rfl | simp))
  clear hO_
  generalize ((((wg.setCell ⟨w.heap.size+1,0,none⟩ (.slice none 0 0)).setCell ⟨w.heap.size+1,1,none⟩ (.int .i64 0)).setCell ⟨w.heap.size+1,2,none⟩ (.int .i64 0)).setCell ⟨w.heap.size+1,3,none⟩ (.slice none 0 0))=wz at *
  obtain ⟨lB1,cB1,fB1⟩:=B1.out
  obtain ⟨lB2,cB2,fB2⟩:=B2.out
  refine bodyPost_ret (v:=.tuple #[.agg #[.slice none 0 0,.int .i64 0,.int .i64 0,.slice none 0 0],.int .i64 9]) (by simp [results,Tryz.results18,go_sem, *]) rfl ⟨jF,9,_,Foot.none,HWHY.out,rfl,OFunc.zero,fun _ h=>h.elim,HW.out⟩
 have HSA:Hid ((tyOf (eN f) a).isSome=true):=h! (by have:=HVA.out.2;rw [hqa] at this;simpa using this.symm)
 have HSB:Hid ((tyOf (eN f) b).isSome=true):=h! (by have:=HVB.out.2;rw [hqb] at this;simpa using this.symm)
 have HSOM:Hid (¬ ((tyOf (eN f) a).isSome=false \/ (tyOf (eN f) b).isSome=false)):=h! (by rw [HSA.out,HSB.out];simp)
 have HEQ:Hid ((tyOf (eN f) a=tyOf (eN f) b) ↔ va=vb):=h! (by
  have h1:=HVA.out.1
  have h2:=HVB.out.1
  have h5:=HSA.out
  have h6:=HSB.out
  cases h3:tyOf (eN f) a <;> cases h4:tyOf (eN f) b <;> rw [h3] at h1 h5 <;> rw [h4] at h2 h6 <;> simp at h1 h2 h5 h6
  rw [h1,h2];simp)
 cases hne:(va != vb)
 rotate_left
 ·have HWHY:Hid (lW f a b jF 3):=h! ⟨0,HS0.out,.inr ⟨rfl,by unfold pL;rw [if_neg HSOM.out,if_pos (fun h=>by have:=HEQ.out.1 h;rw [this] at hne;simp at hne)]⟩⟩
  go_wp2
  clear lB1 cB1 fB1 lB2 cB2 fB2
  have hO_:=((((Only.set wg (w.heap.size+1) 0 (.slice none 0 0)).put 1 (.int .i64 0)).put 2 (.int .i64 0)).put 3 (.slice none 0 0))
  replace B1:=h! (B1.out.only hO_ (by first | assumption | (simp;done) | omega))
  replace HW:=h! (hO_.2.2 HW.out (by first | assumption | omega | (have:=HW.out.size;omega) | (simp;done) | (simp;omega)))
  replace B2:=h! (Box.to (A':=#[(.slice none 0 0),(.int .i64 0),(.int .i64 0),(.slice none 0 0)]) ((((B2.out.set 0 (.slice none 0 0)).set 1 (.int .i64 0)).set 2 (.int .i64 0)).set 3 (.slice none 0 0)) (by first | rfl | simp))
  clear hO_
  generalize ((((wg.setCell ⟨w.heap.size+1,0,none⟩ (.slice none 0 0)).setCell ⟨w.heap.size+1,1,none⟩ (.int .i64 0)).setCell ⟨w.heap.size+1,2,none⟩ (.int .i64 0)).setCell ⟨w.heap.size+1,3,none⟩ (.slice none 0 0))=wz at *
  obtain ⟨lB1,cB1,fB1⟩:=B1.out
  obtain ⟨lB2,cB2,fB2⟩:=B2.out
  refine bodyPost_ret (v:=.tuple #[.agg #[.slice none 0 0,.int .i64 0,.int .i64 0,.slice none 0 0],.int .i64 3]) (by simp [results,Tryz.results18,go_sem, *]) rfl ⟨jF,3,_,Foot.none,HWHY.out,rfl,OFunc.zero,fun _ h=>h.elim,HW.out⟩
 have HWHY:Hid (lW f a b (mapF (jZ a b) f) 0):=h! ⟨0,HS0.out,.inr ⟨rfl,by unfold pL;rw [if_neg HSOM.out,if_neg (fun h=>h (HEQ.out.2 (by simpa using hne)))]⟩⟩
 go_wp2_with fail
 clear hne hqa hqb
 refine (aD9 (HV.out.below HW.out) HSZ.out.1 HSZ.out.2).mono ?_
 rintro e w3 ⟨vo,SO,rfl,hO,hFr,hb⟩
 obtain ⟨⟨pa,bv,SQ,SB,rfl,hQ,hOB,hQB,hsq,hsb⟩,hlt,h64a,h64c⟩:=hO
 obtain ⟨pa2,pc2,rfl⟩:=hQ.ints.form
 obtain ⟨ab2,cb2,hbv⟩:=(hOB.reads (R0:=gH) fun _ _ _ h=>h.reads).form
 subst hbv
 have HQ:Hid (Holds [w.heap.size,w.heap.size+1] (w.heap.size+1+1) w3 SQ (fun W=>eP W SQ (.slice pa2 np pc2) f.params)):=h! (by
  have h9:=((fK hQ (fun k hk=>hFr k (hsq k hk))).from (base':=w.heap.size+1+1) (by omega)).low (bs':=[w.heap.size,w.heap.size+1]) (by intro z hz;simp at hz;omega)
  rw [<-HNP.out] at h9;exact h9)
 have HBK:Hid (Holds [w.heap.size,w.heap.size+1] (w.heap.size+1+1) w3 SB (fun W=>eU W SB (.slice ab2 nb cb2) f.blocks)):=h! (by
  have h9:=((jY OBlock.nice hOB (fun k hk=>hFr k (hsb k hk))).from (base':=w.heap.size+1+1) (by omega)).low (bs':=[w.heap.size,w.heap.size+1]) (by intro z hz;simp at hz;omega)
  rw [<-HNB.out] at h9;exact h9)
 have HQB:=h! hQB
 have HA64:=h! (And.intro h64a h64c)
 rw [<-HAC.out.1, <-HAC.out.2, <-HNP.out, <-HNB.out]
 clear hQ hOB hQB hsq hsb hlt hFr h64a h64c
 clear lB1 cB1 fB1 lB2 cB2 fB2
 replace B1:=h! (B1.out.later hb)
 replace B2:=h! (B2.out.later hb)
 replace HW:=h! (HW.out.trans (hb.mono HW.out.size))
 clear hb
 obtain ⟨lB1,cB1,fB1⟩:=B1.out
 obtain ⟨lB2,cB2,fB2⟩:=B2.out
 have HL2:=h! lB2
 go_upto_region 10 with (fail)
 replace HQ:=h! (HQ.out.more (aA _))
 replace HBK:=h! (HBK.out.more (aA _))
 have nB5B1:w3.heap.size ≠ w.heap.size:=fun e=>by have:=lB1;omega
 have nB1B5:w.heap.size ≠ w3.heap.size:=fun e=>nB5B1 e.symm
 have nB5B2:w3.heap.size ≠ w.heap.size+1:=fun e=>by have:=lB2;omega
 have nB2B5:w.heap.size+1 ≠ w3.heap.size:=fun e=>nB5B2 e.symm
 clear lB1 cB1 fB1 lB2 cB2 fB2
 have hA_:=(Below.refl w3.heap.size w3).alloc (aA _) (.cells #[.slice pa2 np pc2,.int .i64 ar,.int .i64 ce,.slice ab2 nb cb2] 25)
 replace B1:=h! (B1.out.later hA_)
 replace B2:=h! (B2.out.later hA_)
 replace HQ:=h! (HQ.out.later hA_)
 replace HBK:=h! (HBK.out.later hA_)
 replace HW:=h! (HW.out.trans (hA_.mono HW.out.size))
 clear hA_
 have B5:=h! (Box.new w3 #[.slice pa2 np pc2,.int .i64 ar,.int .i64 ce,.slice ab2 nb cb2] 25)
 generalize w3.alloc (.cells #[.slice pa2 np pc2,.int .i64 ar,.int .i64 ce,.slice ab2 nb cb2] 25)=w4 at *
 obtain ⟨lB1,cB1,fB1⟩:=B1.out
 obtain ⟨lB2,cB2,fB2⟩:=B2.out
 obtain ⟨lB5,cB5,fB5⟩:=B5.out
 generalize w3.heap.size=b5 at *
 have HB52:=h! nB5B2
 go_wp2_with fail
 go_loopw [13] (fun i wr => ∃ (j:Nat) (SB:Foot),j <= nb/\i = .int .i64 j/\Below w.heap.size w wr/\Box wr w.heap.size #[.slice ap np cp,.int .i64 ar,.int .i64 ce,.slice ab nb cb]/\Box wr (w.heap.size+1) #[.slice none 0 0,.int .i64 0,.int .i64 0,.slice none 0 0]/\Box wr b5 #[.slice pa2 np pc2,.int .i64 ar,.int .i64 ce,.slice ab2 nb cb2] /\
   Holds [b5,w.heap.size,w.heap.size+1] (w.heap.size+1+1) wr SQ (fun W=>eP W SQ (.slice pa2 np pc2) f.params)/\Holds [b5,w.heap.size,w.heap.size+1] (w.heap.size+1+1) wr SB (fun W=>eU W SB (.slice ab2 nb cb2) (fV (mapB (jZ a b)) f.blocks j))/\SQ.off SB) (fun i _=>nb - (intOf i).toNat)
 case atStart=>exact ⟨0,SB,aI _,rfl,HW.out,B1.out,B2.out,B5.out,HQ.out,by rw [fI];exact HBK.out,HQB.out⟩
 obtain ⟨j,SB',hj,rfl,hW,h1,h2,h3,h4,h5,h6⟩:=hrel
 clear lB1 cB1 fB1 lB2 cB2 fB2 lB5 cB5 fB5
 replace HW:=h! hW
 replace B1:=h! h1
 replace B2:=h! h2
 replace B5:=h! h3
 replace HQ:=h! h4
 have HBS:=h! h5
 replace HQB:=h! h6
 clear hW h1 h2 h3 h4 h5 h6 HBK
 generalize wr=w6 at *
 obtain ⟨lB1,cB1,fB1⟩:=B1.out
 obtain ⟨lB2,cB2,fB2⟩:=B2.out
 obtain ⟨lB5,cB5,fB5⟩:=B5.out
 by_cases hlt:j < nb
 ·obtain ⟨rfl,hbp⟩:=HBA.out (by omega)
  obtain ⟨x,hxm⟩ : ∃ x,f.blocks[j]? = some x:=⟨_,aC (by have:=HNB.out;omega)⟩
  obtain ⟨api,aii,ati,cpi,cii,cti,hC⟩:=HBX.out j x hxm
  have HBV:=h! hC.blockV
  have HBC:=h! hC
  have HSX:=h! (HSZ.out.1 x (aG hxm))
  have HXM:=h! hxm
  clear hC
  obtain ⟨g,cap,z1,z2,z3,z4,z5,z6,T1,T2,T3,hv,hgl,hSg,hC,hfr, -⟩:=HBS.out.now.open (x:=x) (j:=j) (by rw [fW];exact hxm)
  rw [eS, <-HNB.out] at hv
  injection hv with e1 e2 e3
  subst e1
  subst e3
  have HSG:=h! hSg
  obtain ⟨xm,hxm'⟩ : ∃ xm,xm=mapB (jZ a b) x:=⟨_,rfl⟩
  have HXX:=h! hxm'
  have HHC:=h! hC
  have HHF:=h! hfr
  have HGL:=h! hgl
  have HMC:Hid (∀ (W:World) (B:Nat),Below w.heap.size w W -> Box W B #[.int .i64 a,.int .i64 b] -> Calls Tryz.prog 41 #[.agg #[.slice api x.phis.length cpi,.slice aii x.code.length cii,.int .i64 x.term.op,.int .i64 x.term.val,.slice ati x.term.to.length cti,.int .i64 x.term.n],.slice (some ⟨B,0,none⟩) 1 1] W (fun e w' => ∃ u,e = .returned u/\(∃ (pv uv tv:Value) (S:Foot),u = .agg #[pv,uv,.int .i64 xm.term.op,.int .i64 xm.term.val,tv,.int .i64 xm.term.n]/\Holds [] W.heap.size w' S (fun W=>OBlock W S [pv,uv,.int .i64 xm.term.op,.int .i64 xm.term.val,tv,.int .i64 xm.term.n] xm))/\Below W.heap.size W w')):=h! (fun W B hb hB=>by
   rw [hxm']
   refine (yF (HBV.out.below hb) HSX.out.1 HSX.out.2 (aFB H64.out.2) (aFC hB)).mono ?_
   rintro e w' ⟨pv,uv,tv,S,he,hO,hF,hw⟩
   exact ⟨_,he,⟨pv,uv,tv,S,rfl,iO OBlock.nice hO hF⟩,hw⟩)
  clear hxm hSg hC e2 hxm' hfr hgl
  have HLB:Hid (b5 < w6.heap.size/\w.heap.size+1 < w6.heap.size):=h! ⟨B5.out.lt,B2.out.lt⟩
  have HB4L:Hid (∀ k,SB' k -> k < w6.heap.size):=h! HBS.out.lt
  have HQ4L:Hid (∀ k,SQ k -> k < w6.heap.size):=h! HQ.out.lt
  go_upto_region 13 with (fail)
  refine Four.wp_region_grow (XF:=(fun _=>Foot.none)) (I:=(fun _=>True)) 14 (fun ν kz=>match kz with | 11=>.made w6.heap.size (fun b=>.slice (some ⟨b,0,none⟩) 1 1) #[.int .i64 a,.int .i64 b] | 12=>.holds (fun u w' => ∃ (pv uv tv:Value) (S:Foot),u = .agg #[pv,uv,.int .i64 xm.term.op,.int .i64 xm.term.val,tv,.int .i64 xm.term.n]/\Holds [] w6.heap.size w' S (fun W=>OBlock W S [pv,uv,.int .i64 xm.term.op,.int .i64 xm.term.val,tv,.int .i64 xm.term.n] xm)) | _=>.plain) (by kernel_rfl) (by kernel_rfl) ?_ ?_ (fun _ _ h=>h.elim) (fun _ _ _ _=>trivial) trivial ?_ (fun ν => ?_)
  ·(intro ν k;(try dsimp only);split <;> first | exact True.intro | (intro u w1 w2 hu hb;first | (obtain ⟨pv,uv,tv,S,h1,h2⟩:=hu;exact ⟨pv,uv,tv,S,h1,h2.off hb (fun _ _ ⟨_,_,h⟩=>h.elim)⟩) | (obtain ⟨B,h1,h2,h3⟩:=hu;exact ⟨B,h1,h2,h3.off hb (fun ⟨_,_,h⟩=>h.elim)⟩)))
  ·(intro ν ν' k h;first | rfl | ((try dsimp only);split <;> first | rfl))
  ·(intro ν j B mk A h;(try dsimp only at h);split at h <;> first | (cases h;exact Nat.le_refl _) | cases h)
  simp only [aO,aV,aS,aX]
  iterate 11 (refine Four.Grow.val (v := ?_) rfl rfl (fun wg hbg hdg => ?_) ?_;rotate_left;(focus ((obtain ⟨lg0,cg0,fg0⟩:=B1.out.off hbg.off (fun ⟨_,h⟩=>h.elim));(obtain ⟨lg1,cg1,fg1⟩:=B2.out.off hbg.off (fun ⟨_,h⟩=>h.elim));(obtain ⟨lg2,cg2,fg2⟩:=B5.out.off hbg.off (fun ⟨_,h⟩=>h.elim));(obtain ⟨k0,k1,k2,k3,k4,k5, -, -, -, -, -, -⟩:=HBC.out.below (HW.out.trans ((pre0 hbg).mono HW.out.size)) hbp);clear hbg hdg;first | (go_simp;done) | (go_simp;with_reducible rfl)));simp only [Act.put,aB,aE,aF])
  refine Four.Grow.made (T := ?_) rfl rfl (fun wg hbg hdg => ?_) ?_
  rotate_left
  focus ((obtain ⟨lg0,cg0,fg0⟩:=B1.out.off hbg.off (fun ⟨_,h⟩=>h.elim));(obtain ⟨lg1,cg1,fg1⟩:=B2.out.off hbg.off (fun ⟨_,h⟩=>h.elim));(obtain ⟨lg2,cg2,fg2⟩:=B5.out.off hbg.off (fun ⟨_,h⟩=>h.elim));(obtain ⟨k0,k1,k2,k3,k4,k5, -, -, -, -, -, -⟩:=HBC.out.below (HW.out.trans ((pre0 hbg).mono HW.out.size)) hbp);clear hbg hdg;first | (go_simp;done) | (go_simp;with_reducible rfl))
  simp only [Act.put,Known.val,aB,aE,aF]
  refine Four.Grow.call (f := ?_) (args := ?_) rfl (fun wg => ?_) (fun wg hbg hdg => ?_) ?_
  rotate_left 2
  focus (first | (go_simp;done) | (go_simp;refine And.intro ?_ ?_ <;> with_reducible rfl) | (go_simp;with_reducible rfl))
  focus ((obtain ⟨B,e11,q1,q2⟩:=hdg 11 (by kernel_rfl));simp only [e11];exact (HMC.out wg B (HW.out.trans ((pre0 hbg).mono HW.out.size)) q2).mono (fun e w2 ⟨u,he,⟨pv,uv,tv,S,e1,k1⟩,hw⟩=>⟨u,he,⟨pv,uv,tv,S,e1,k1.from hbg.1.size⟩,hw⟩))
  simp only [Act.put,Known.val,aB,aE,aF]
  refine Four.Grow.val (v := ?_) rfl rfl (fun wg hbg hdg => ?_) ?_
  rotate_left
  focus ((obtain ⟨lg0,cg0,fg0⟩:=B1.out.off hbg.off (fun ⟨_,h⟩=>h.elim));(obtain ⟨lg1,cg1,fg1⟩:=B2.out.off hbg.off (fun ⟨_,h⟩=>h.elim));(obtain ⟨lg2,cg2,fg2⟩:=B5.out.off hbg.off (fun ⟨_,h⟩=>h.elim));(obtain ⟨k0,k1,k2,k3,k4,k5, -, -, -, -, -, -⟩:=HBC.out.below (HW.out.trans ((pre0 hbg).mono HW.out.size)) hbp);clear hbg hdg;first | (go_simp;done) | (go_simp;with_reducible rfl))
  simp only [Act.put,aB,aE,aF]
  intro wg hb hf hap
  obtain ⟨bBN,hνBN,hBBN,hXBN⟩:=hf 11 (by omega)
  have nBNB1:bBN ≠ w.heap.size:=fun e=>by have:=lB1;omega
  have nB1BN:w.heap.size ≠ bBN:=fun e=>nBNB1 e.symm
  have nBNB2:bBN ≠ w.heap.size+1:=fun e=>by have:=lB2;omega
  have nB2BN:w.heap.size+1 ≠ bBN:=fun e=>nBNB2 e.symm
  have nBNB5:bBN ≠ b5:=fun e=>by have:=lB5;omega
  have nB5BN:b5 ≠ bBN:=fun e=>nBNB5 e.symm
  simp only [hνBN]
  clear hνBN
  clear hap
  have gBN:=bJ HW.out.size hBBN
  clear hBBN
  clear lB1 cB1 fB1 lB2 cB2 fB2 lB5 cB5 fB5
  replace B1:=h! (B1.out.off hb.1 (fun ⟨_,h⟩=>h.elim))
  replace B2:=h! (B2.out.off hb.1 (fun ⟨_,h⟩=>h.elim))
  replace B5:=h! (B5.out.off hb.1 (fun ⟨_,h⟩=>h.elim))
  replace HQ:=h! (HQ.out.off hb.1 (fun _ _ ⟨_,h⟩=>h.elim))
  replace HBS:=h! (HBS.out.off hb.1 (fun _ _ ⟨_,h⟩=>h.elim))
  replace HW:=h! (HW.out.trans (hb.1.below HW.out.size (fun _ _ ⟨_,h⟩=>h.elim)))
  have BN:=h! hXBN
  clear hXBN
  obtain ⟨lB1,cB1,fB1⟩:=B1.out
  obtain ⟨lB2,cB2,fB2⟩:=B2.out
  obtain ⟨lB5,cB5,fB5⟩:=B5.out
  obtain ⟨lBN,cBN,fBN⟩:=BN.out
  simp only [bE,Nat.reduceAdd]
  have h4:∃ (pv uv tv:Value) (S:Foot), ν 12 = .agg #[pv,uv,.int .i64 xm.term.op,.int .i64 xm.term.val,tv,.int .i64 xm.term.n]/\Holds [] w6.heap.size wg S (fun W=>OBlock W S [pv,uv,.int .i64 xm.term.op,.int .i64 xm.term.val,tv,.int .i64 xm.term.n] xm):=hf 12 (by omega)
  obtain ⟨pv,uv,tv,SN,e4,k4⟩:=h4
  obtain ⟨⟨_,_,_,S1,S2,S3,e5,o1,o2,o3, -⟩, -⟩:=k4.now
  obtain ⟨⟨tv',e6,o4⟩, -⟩:=o3
  cases e5
  cases e6
  obtain ⟨pa,pcc,rfl⟩:=(o1.reads (R0:=PhiR) fun _ _ _ h=>h.reads).form
  obtain ⟨ua,ucc,rfl⟩:=(o2.reads (R0:=gW) fun _ _ _ h=>h.reads).form
  obtain ⟨tta,ttc,rfl⟩:=o4.ints.form
  simp only [e4]
  have K4:=h! k4
  clear e4 k4 hf o1 o2 o4 hb
  obtain ⟨g',cap',y1,y2,y3,y4,y5,y6,U1,U2,U3,hv,hgl, -,hC,hfr, -⟩:=HBS.out.now.open (x:=x) (j:=j) (by rw [fW];exact HXM.out)
  have HV9:=h! hv
  rw [eS, <-HNB.out] at hv
  obtain ⟨rfl,rfl⟩ : g=g' /\ cb2=cap':=by injection hv with h1 h2 h3;injection h1 with h1;injection h1 with h1;exact ⟨h1,h3⟩
  obtain ⟨c0,c1,c2,c3,c4,c5, -, -, -, -, -, -⟩:=hC
  have HNS:Hid (SN.off SB'):=h! (fun k h1 h2=>by have:=HB4L.out k h2;have:=K4.out.base k h1;omega)
  have HNQ:Hid (SQ.off SN):=h! (fun k h1 h2=>by have:=HQ4L.out k h1;have:=K4.out.base k h2;omega)
  have HLS:Hid ((fV (mapB (jZ a b)) f.blocks j).set j xm=fV (mapB (jZ a b)) f.blocks (j+1)):=h! (by rw [HXX.out];exact fX HXM.out)
  have HPUT:=h! (nP HBS.out.now (j:=j) (y:=x) (by rw [fW];exact HXM.out) HV9.out K4.out.now HNS.out)
  have HOFF:=h! (nZ wg g (j * 6) (.slice pa xm.phis.length pcc) (.slice ua xm.code.length ucc) (.int .i64 xm.term.op) (.int .i64 xm.term.val) (.slice tta xm.term.to.length ttc) (.int .i64 xm.term.n))
  unfold put6 at HPUT HOFF
  rw [HLS.out] at HPUT
  clear hv hgl
  go_upto_region 12 with (fail)
  clear c0 c1 c2 c3 c4 c5 hfr
  clear lB1 cB1 fB1 lB2 cB2 fB2 lB5 cB5 fB5 lBN cBN fBN
  generalize ((((((wg.setCell ⟨g,j * 6,none⟩ (.slice pa xm.phis.length pcc)).setCell ⟨g,j * 6+1,none⟩ (.slice ua xm.code.length ucc)).setCell ⟨g,j * 6+2,none⟩ (.int .i64 xm.term.op)).setCell ⟨g,j * 6+3,none⟩ (.int .i64 xm.term.val)).setCell ⟨g,j * 6+4,none⟩ (.slice tta xm.term.to.length ttc)).setCell ⟨g,j * 6+5,none⟩ (.int .i64 xm.term.n))=w8 at *
  replace B1:=h! (B1.out.off HOFF.out (fun h=>HBS.out.free _ HSG.out (by rw [<-h];simp)))
  replace B2:=h! (B2.out.off HOFF.out (fun h=>HBS.out.free _ HSG.out (by rw [<-h];simp)))
  replace B5:=h! (B5.out.off HOFF.out (fun h=>HBS.out.free _ HSG.out (by rw [<-h];simp)))
  replace HQ:=h! (HQ.out.off HOFF.out (fun k h1 h2=>HQB.out k h1 (by cases h2;exact HSG.out)))
  replace HW:=h! (HW.out.trans (HOFF.out.below HW.out.size (fun k _ hk=>by cases hk;have:=HBS.out.base _ HSG.out;omega)))
  have HBS2:Hid (Holds [b5,w.heap.size,w.heap.size+1] (w.heap.size+1+1) w8 (fun k=>SB' k \/ SN k) (fun W=>eU W (fun k=>SB' k \/ SN k) (.slice (some ⟨g,0,none⟩) nb cb2) (fV (mapB (jZ a b)) f.blocks (j+1)))) :=
   h! ⟨HPUT.out,fun _ _ h hk=>h.keep OBlock.nice hk,HPUT.out.lt,fun k hk=>by rcases hk with hk | hk;exact HBS.out.base k hk;have:=K4.out.base k hk;have:=HLB.out;omega,fun k hk=>by rcases hk with hk | hk;exact HBS.out.free k hk;have:=K4.out.base k hk;have:=HLB.out;simp;omega⟩
  replace HQB:Hid (SQ.off (fun k=>SB' k \/ SN k)):=h! (fun k h1 h2=>by rcases h2 with h2 | h2;exact HQB.out k h1 h2;exact HNQ.out k h1 h2)
  clear HBS HPUT HOFF K4
  obtain ⟨lB1,cB1,fB1⟩:=B1.out
  obtain ⟨lB2,cB2,fB2⟩:=B2.out
  obtain ⟨lB5,cB5,fB5⟩:=B5.out
  go_wp2
  go_roundw
  case rel=>exact ⟨j+1,_,hlt,by go_num,HW.out,B1.out,B2.out,B5.out,HQ.out,HBS2.out,HQB.out⟩
  simp [intOf];omega
 have hjn:j=nb:=by omega
 have HBF:Hid (Holds [b5,w.heap.size,w.heap.size+1] (w.heap.size+1+1) w6 SB' (fun W=>eU W SB' (.slice ab2 nb cb2) (f.blocks.map (mapB (jZ a b))))):=h! (by
  have h9:=HBS.out
  rw [hjn,HNB.out,gD, <-HNB.out] at h9
  exact h9)
 clear HBS hjn
 go_wp2
 clear lB1 cB1 fB1 lB2 cB2 fB2 lB5 cB5 fB5
 have hO_:=((((Only.set w6 (w.heap.size+1) 0 (.slice pa2 np pc2)).put 1 (.int .i64 ar)).put 2 (.int .i64 ce)).put 3 (.slice ab2 nb cb2))
 replace B1:=h! (B1.out.only hO_ (by first | assumption | (simp;done) | omega))
 replace B5:=h! (B5.out.only hO_ (by first | assumption | (simp;done) | omega))
 replace HQ:=h! ((((HQ.out.other (p:=⟨w.heap.size+1,0,none⟩) (.slice pa2 np pc2) (by simp)).other (p:=⟨w.heap.size+1,1,none⟩) (.int .i64 ar) (by simp)).other (p:=⟨w.heap.size+1,2,none⟩) (.int .i64 ce) (by simp)).other (p:=⟨w.heap.size+1,3,none⟩) (.slice ab2 nb cb2) (by simp))
 replace HBF:=h! ((((HBF.out.other (p:=⟨w.heap.size+1,0,none⟩) (.slice pa2 np pc2) (by simp)).other (p:=⟨w.heap.size+1,1,none⟩) (.int .i64 ar) (by simp)).other (p:=⟨w.heap.size+1,2,none⟩) (.int .i64 ce) (by simp)).other (p:=⟨w.heap.size+1,3,none⟩) (.slice ab2 nb cb2) (by simp))
 replace HW:=h! (hO_.2.2 HW.out (by first | assumption | omega | (have:=HW.out.size;omega) | (simp;done) | (simp;omega)))
 replace B2:=h! (Box.to (A':=#[(.slice pa2 np pc2),(.int .i64 ar),(.int .i64 ce),(.slice ab2 nb cb2)]) ((((B2.out.set 0 (.slice pa2 np pc2)).set 1 (.int .i64 ar)).set 2 (.int .i64 ce)).set 3 (.slice ab2 nb cb2)) (by first | rfl | simp))
 clear hO_
 generalize ((((w6.setCell ⟨w.heap.size+1,0,none⟩ (.slice pa2 np pc2)).setCell ⟨w.heap.size+1,1,none⟩ (.int .i64 ar)).setCell ⟨w.heap.size+1,2,none⟩ (.int .i64 ce)).setCell ⟨w.heap.size+1,3,none⟩ (.slice ab2 nb cb2))=w7 at *
 obtain ⟨lB1,cB1,fB1⟩:=B1.out
 obtain ⟨lB2,cB2,fB2⟩:=B2.out
 obtain ⟨lB5,cB5,fB5⟩:=B5.out
 refine bodyPost_ret (v:=.tuple #[.agg #[.slice pa2 np pc2,.int .i64 ar,.int .i64 ce,.slice ab2 nb cb2],.int .i64 0]) (by simp [results,Tryz.results18,go_sem, *]) rfl ⟨_,0,_,fun k=>SQ k \/ SB' k,HWHY.out,rfl,⟨⟨_,_,SQ,SB',by rw [HAC.out.1,HAC.out.2];rfl,HQ.out.now,HBF.out.now,HQB.out,fun _ h=>.inl h,fun _ h=>.inr h⟩,fun k hk=>hk.elim (HQ.out.lt k) (HBF.out.lt k),HA64.out.1,HA64.out.2⟩,fun k hk=>by have:=hk.elim (HQ.out.base k) (HBF.out.base k);omega,HW.out⟩
end
section
open Go.RowKit
theorem aAC (W:World) (v:Value) (f:FuncD) (hv:fO W v f):Calls Tryz.prog 11 #[v] W (RenR f W):=vC (fun _ _ _ h1 h2 h3=>aB3 h1 h2 h3) hv
theorem aE7 {w:World} {v v' : Value} {f g:FuncD} (hf:fO w v f) (hg:fO w v' g) :
  Calls Tryz.prog 15 #[v,v'] w fun e w' => ∃ r,e = .returned (.bool r)/\yK f g r/\Below w.heap.size w w':=yL aAC hf hg
theorem oO:gP gL 0 0:=by
 refine .inr ⟨fun d hd => ?_,.inr ⟨fun d y hy => ?_,.inr ⟨fun v hv => ?_,rfl,rfl⟩⟩⟩
 ·have h1:d < 1:=hd
  obtain rfl:d=0:=by omega
  exact .zero (by decide)
 ·have h1:=(aD.1 hy).1
  have h2:d < 1:=h1
  obtain rfl:d=0:=by omega
  have h3:some (⟨[],[⟨1,0,[],5⟩],⟨3,0,[],0⟩⟩ : BlockD)=some y:=hy
  injection h3 with h3
  rw [<-h3];rfl
 have h9:∀ v ∈ uxF gL,v.id=0/\v.blk=0/\v.pos=1:=by decide
 obtain ⟨h1,h2,h3⟩:=h9 v hv
 exact ⟨0,0,by rw [h1,qE];rfl,.inr ⟨by omega,.inl ⟨h2.symm,by omega⟩⟩⟩
theorem lJ {g:FuncD} {k:Int} (h:RenP gL g k):g=gL/\k=0:=by
 have h0:SErr gL 0:=.inr ⟨sN.1,0,oO⟩
 obtain ⟨s,h1,h2⟩:=h
 obtain rfl:=h1.one h0
 rcases h2 with ⟨n,_⟩ | ⟨_,rfl,O,hO,rfl⟩
 ·exact absurd rfl n
 obtain ⟨q1, -,q3,q4, -⟩:=hO.facts
 have q5:∀ b ∈ O,b=0:=fun b hb=>by have h9:b < 1:=q3 b hb;omega
 have:O=[0]:=by
  match O,q1,q4,q5 with
  | [],_,h,_=>simp at h
  | [a],_,_,h=>rw [h a (by simp)]
  | a :: b :: l,h,_,h2 =>
   exfalso
   rw [dZ] at h
   exact h.1 (by rw [h2 a (by simp), <-h2 b (by simp)];simp)
 subst this
 exact ⟨by decide,rfl⟩
theorem oW {r:Bool} (h:yK gL gL r):r=true:=by
 obtain ⟨a,b,k,q,h1,h2,rfl⟩:=h
 obtain ⟨rfl,rfl⟩:=lJ h1
 obtain ⟨rfl,rfl⟩:=lJ h2
 simp
theorem aE8 {w:World}:Calls Tryz.prog 13 #[] w fun e w'=>e = .returned (.bool true)/\Below w.heap.size w w':=by
 go_enter Tryz.func13,Tryz.ntmps13
 go_upto_region 2 with (fail)
 have hA_:=(Below.refl w.heap.size w).alloc (aA _) (.cells #[.int .i64 1,.int .i64 0,.slice none 0 0,.int .i64 5] 82)
 have HW:=h! hA_
 clear hA_
 have B0:=h! (Box.new w #[.int .i64 1,.int .i64 0,.slice none 0 0,.int .i64 5] 82)
 have hz0_:(w.alloc (.cells #[.int .i64 1,.int .i64 0,.slice none 0 0,.int .i64 5] 82)).heap.size=w.heap.size+1:=World.size_alloc _ _
 generalize w.alloc (.cells #[.int .i64 1,.int .i64 0,.slice none 0 0,.int .i64 5] 82)=wv0 at *
 have hA_:=(Below.refl wv0.heap.size wv0).alloc (aA _) (.cells #[.slice none 0 0,.slice (some ⟨w.heap.size,0,none⟩) 1 1,.int .i64 3,.int .i64 0,.slice none 0 0,.int .i64 0] 63)
 replace B0:=h! (B0.out.later hA_)
 replace HW:=h! (HW.out.trans (hA_.mono HW.out.size))
 clear hA_
 have B1:=h! (Box.new wv0 #[.slice none 0 0,.slice (some ⟨w.heap.size,0,none⟩) 1 1,.int .i64 3,.int .i64 0,.slice none 0 0,.int .i64 0] 63)
 rw [hz0_] at B1
 have hz1_:(wv0.alloc (.cells #[.slice none 0 0,.slice (some ⟨w.heap.size,0,none⟩) 1 1,.int .i64 3,.int .i64 0,.slice none 0 0,.int .i64 0] 63)).heap.size=w.heap.size+1+1:=by rw [World.size_alloc,hz0_]
 clear hz0_
 generalize wv0.alloc (.cells #[.slice none 0 0,.slice (some ⟨w.heap.size,0,none⟩) 1 1,.int .i64 3,.int .i64 0,.slice none 0 0,.int .i64 0] 63)=wv1 at *
 have hA_:=(Below.refl wv1.heap.size wv1).alloc (aA _) (.cells #[.slice none 0 0,.int .i64 0,.int .i64 0,.slice (some ⟨w.heap.size+1,0,none⟩) 1 1] 25)
 replace B0:=h! (B0.out.later hA_)
 replace B1:=h! (B1.out.later hA_)
 replace HW:=h! (HW.out.trans (hA_.mono HW.out.size))
 clear hA_
 have B2:=h! (Box.new wv1 #[.slice none 0 0,.int .i64 0,.int .i64 0,.slice (some ⟨w.heap.size+1,0,none⟩) 1 1] 25)
 rw [hz1_] at B2
 clear hz1_
 generalize wv1.alloc (.cells #[.slice none 0 0,.int .i64 0,.int .i64 0,.slice (some ⟨w.heap.size+1,0,none⟩) 1 1] 25)=wv at *
 obtain ⟨lB0,cB0,fB0⟩:=B0.out
 obtain ⟨lB1,cB1,fB1⟩:=B1.out
 obtain ⟨lB2,cB2,fB2⟩:=B2.out
 go_wp2_with fail
 refine (aAC _ _ _ (jW B0.out B1.out)).mono ?_
 rintro e w2 ⟨g,k,v2,S2,hp,rfl,hO,hF,hb⟩
 obtain ⟨rfl,rfl⟩:=lJ hp
 obtain ⟨ax,cx,bx,dx,rfl, -, -, -, -⟩:=hO.reads.form
 have HA:=h! (jO hO hF)
 clear hp hO hF
 obtain ⟨pl,hpl⟩ : ∃ pl,pl=gL.params.length:=⟨_,rfl⟩
 obtain ⟨ar,har⟩ : ∃ ar,ar=gL.arrays:=⟨_,rfl⟩
 obtain ⟨ce,hce⟩ : ∃ ce,ce=gL.cells:=⟨_,rfl⟩
 obtain ⟨bl,hbl⟩ : ∃ bl,bl=gL.blocks.length:=⟨_,rfl⟩
 rw [<-hpl, <-har, <-hce, <-hbl] at HA
 rw [<-hpl, <-har, <-hce, <-hbl]
 clear hpl har hce hbl
 clear lB0 cB0 fB0 lB1 cB1 fB1 lB2 cB2 fB2
 replace B0:=h! (B0.out.later hb)
 replace B1:=h! (B1.out.later hb)
 replace B2:=h! (B2.out.later hb)
 replace HW:=h! (HW.out.trans (hb.mono HW.out.size))
 clear hb
 obtain ⟨lB0,cB0,fB0⟩:=B0.out
 obtain ⟨lB1,cB1,fB1⟩:=B1.out
 obtain ⟨lB2,cB2,fB2⟩:=B2.out
 go_upto_region 3 with (fail)
 replace HA:=h! (HA.out.more (aA _))
 have nB3B0:w2.heap.size ≠ w.heap.size:=fun e=>by have:=lB0;omega
 have nB0B3:w.heap.size ≠ w2.heap.size:=fun e=>nB3B0 e.symm
 have nB3B1:w2.heap.size ≠ w.heap.size+1:=fun e=>by have:=lB1;omega
 have nB1B3:w.heap.size+1 ≠ w2.heap.size:=fun e=>nB3B1 e.symm
 have nB3B2:w2.heap.size ≠ w.heap.size+1+1:=fun e=>by have:=lB2;omega
 have nB2B3:w.heap.size+1+1 ≠ w2.heap.size:=fun e=>nB3B2 e.symm
 clear lB0 cB0 fB0 lB1 cB1 fB1 lB2 cB2 fB2
 have hA_:=(Below.refl w2.heap.size w2).alloc (aA _) (.cells #[.slice ax pl cx,.int .i64 ar,.int .i64 ce,.slice bx bl dx] 25)
 replace B0:=h! (B0.out.later hA_)
 replace B1:=h! (B1.out.later hA_)
 replace B2:=h! (B2.out.later hA_)
 replace HA:=h! (HA.out.later hA_)
 replace HW:=h! (HW.out.trans (hA_.mono HW.out.size))
 clear hA_
 have B3:=h! (Box.new w2 #[.slice ax pl cx,.int .i64 ar,.int .i64 ce,.slice bx bl dx] 25)
 generalize w2.alloc (.cells #[.slice ax pl cx,.int .i64 ar,.int .i64 ce,.slice bx bl dx] 25)=w3 at *
 obtain ⟨lB0,cB0,fB0⟩:=B0.out
 obtain ⟨lB1,cB1,fB1⟩:=B1.out
 obtain ⟨lB2,cB2,fB2⟩:=B2.out
 obtain ⟨lB3,cB3,fB3⟩:=B3.out
 go_wp2_with fail
 refine (aA2 (jW B0.out B1.out) HA.out.now.reads).mono ?_
 rintro e w4 ⟨he,hb⟩
 rw [decide_eq_true rfl] at he
 subst he
 clear lB0 cB0 fB0 lB1 cB1 fB1 lB2 cB2 fB2 lB3 cB3 fB3
 replace B0:=h! (B0.out.later hb)
 replace B1:=h! (B1.out.later hb)
 replace B2:=h! (B2.out.later hb)
 replace B3:=h! (B3.out.later hb)
 replace HA:=h! (HA.out.later hb)
 replace HW:=h! (HW.out.trans (hb.mono HW.out.size))
 clear hb
 obtain ⟨lB0,cB0,fB0⟩:=B0.out
 obtain ⟨lB1,cB1,fB1⟩:=B1.out
 obtain ⟨lB2,cB2,fB2⟩:=B2.out
 obtain ⟨lB3,cB3,fB3⟩:=B3.out
 go_wp2_with fail
 refine (aE7 (jW B0.out B1.out) (jW B0.out B1.out)).mono ?_
 rintro e w5 ⟨r,rfl,hq,hb⟩
 obtain rfl:=oW hq
 clear hq
 clear lB0 cB0 fB0 lB1 cB1 fB1 lB2 cB2 fB2 lB3 cB3 fB3
 replace B0:=h! (B0.out.later hb)
 replace B1:=h! (B1.out.later hb)
 replace B2:=h! (B2.out.later hb)
 replace B3:=h! (B3.out.later hb)
 replace HA:=h! (HA.out.later hb)
 replace HW:=h! (HW.out.trans (hb.mono HW.out.size))
 clear hb
 obtain ⟨lB0,cB0,fB0⟩:=B0.out
 obtain ⟨lB1,cB1,fB1⟩:=B1.out
 obtain ⟨lB2,cB2,fB2⟩:=B2.out
 obtain ⟨lB3,cB3,fB3⟩:=B3.out
 go_wp2
 go_ret
 exact ⟨rfl,HW.out⟩
set_option maxRecDepth 100000 in
theorem rJ {w:World} {v:Value} (f:FuncD) {a b:Int} (hv:fO w v f) (ha:In64 a) (hb64:In64 b) :
  Calls Tryz.prog 4 #[v,.int .i64 a,.int .i64 b] w fun e w'=>e = .returned (.bool true)/\Below w.heap.size w w':=by
 have HV:=h! hv
 have H64:=h! (And.intro ha hb64)
 obtain ⟨ap,cp,ab,cb,rfl, -, -, -, -⟩:=hv.form
 clear hv ha hb64
 go_enter Tryz.func4,Tryz.ntmps4
 go_upto_region 1 with (fail)
 have hA_:=(Below.refl w.heap.size w).alloc (aA _) (.cells #[.slice ap f.params.length cp,.int .i64 f.arrays,.int .i64 f.cells,.slice ab f.blocks.length cb] 25)
 have HW:=h! hA_
 clear hA_
 have B1:=h! (Box.new w #[.slice ap f.params.length cp,.int .i64 f.arrays,.int .i64 f.cells,.slice ab f.blocks.length cb] 25)
 generalize w.alloc (.cells #[.slice ap f.params.length cp,.int .i64 f.arrays,.int .i64 f.cells,.slice ab f.blocks.length cb] 25)=wv at *
 obtain ⟨lB1,cB1,fB1⟩:=B1.out
 go_wp2_with fail
 refine (tG (HV.out.below HW.out) H64.out.1 H64.out.2).mono ?_
 rintro e w1 ⟨g,k,v1,S1,hP1,rfl,hO1,hF1,hb⟩
 obtain ⟨ax,cx,bx,dx,rfl, -, -, -, -⟩:=hO1.reads.form
 have HP1:=h! hP1
 have HA:=h! (jO hO1 hF1)
 clear hP1 hO1 hF1
 clear lB1 cB1 fB1
 replace B1:=h! (B1.out.later hb)
 replace HW:=h! (HW.out.trans (hb.mono HW.out.size))
 clear hb
 obtain ⟨lB1,cB1,fB1⟩:=B1.out
 go_upto_region 2 with (fail)
 replace HA:=h! (HA.out.more (aA _))
 have nB3B1:w1.heap.size ≠ w.heap.size:=fun e=>by have:=lB1;omega
 have nB1B3:w.heap.size ≠ w1.heap.size:=fun e=>nB3B1 e.symm
 clear lB1 cB1 fB1
 have hA_:=(Below.refl w1.heap.size w1).alloc (aA _) (.cells #[.slice ax g.params.length cx,.int .i64 g.arrays,.int .i64 g.cells,.slice bx g.blocks.length dx] 25)
 replace B1:=h! (B1.out.later hA_)
 replace HA:=h! (HA.out.later hA_)
 replace HW:=h! (HW.out.trans (hA_.mono HW.out.size))
 clear hA_
 have B3:=h! (Box.new w1 #[.slice ax g.params.length cx,.int .i64 g.arrays,.int .i64 g.cells,.slice bx g.blocks.length dx] 25)
 generalize w1.alloc (.cells #[.slice ax g.params.length cx,.int .i64 g.arrays,.int .i64 g.cells,.slice bx g.blocks.length dx] 25)=w2 at *
 obtain ⟨lB1,cB1,fB1⟩:=B1.out
 obtain ⟨lB3,cB3,fB3⟩:=B3.out
 go_wp2_with fail
 refine (wP (HV.out.below HW.out) H64.out.1 H64.out.2).mono ?_
 rintro e w3 ⟨g2,k2,v2,S2,hP2,rfl,hO2,hF2,hb⟩
 obtain ⟨rfl,rfl⟩:=HP1.out.one hP2
 obtain ⟨ay,cy,dy,ey,rfl, -, -, -, -⟩:=hO2.reads.form
 have HB:=h! (jO hO2 hF2)
 clear hP2 hO2 hF2
 clear lB1 cB1 fB1 lB3 cB3 fB3
 replace B1:=h! (B1.out.later hb)
 replace B3:=h! (B3.out.later hb)
 replace HA:=h! (HA.out.later hb)
 replace HW:=h! (HW.out.trans (hb.mono HW.out.size))
 clear hb
 obtain ⟨lB1,cB1,fB1⟩:=B1.out
 obtain ⟨lB3,cB3,fB3⟩:=B3.out
 go_upto_region 3 with (fail)
 replace HA:=h! (HA.out.more (aA _))
 replace HB:=h! (HB.out.more (aA _))
 have nB4B1:w3.heap.size ≠ w.heap.size:=fun e=>by have:=lB1;omega
 have nB1B4:w.heap.size ≠ w3.heap.size:=fun e=>nB4B1 e.symm
 have nB4B3:w3.heap.size ≠ w1.heap.size:=fun e=>by have:=lB3;omega
 have nB3B4:w1.heap.size ≠ w3.heap.size:=fun e=>nB4B3 e.symm
 clear lB1 cB1 fB1 lB3 cB3 fB3
 have hA_:=(Below.refl w3.heap.size w3).alloc (aA _) (.cells #[.slice ay g.params.length cy,.int .i64 g.arrays,.int .i64 g.cells,.slice dy g.blocks.length ey] 25)
 replace B1:=h! (B1.out.later hA_)
 replace B3:=h! (B3.out.later hA_)
 replace HA:=h! (HA.out.later hA_)
 replace HB:=h! (HB.out.later hA_)
 replace HW:=h! (HW.out.trans (hA_.mono HW.out.size))
 clear hA_
 have B4:=h! (Box.new w3 #[.slice ay g.params.length cy,.int .i64 g.arrays,.int .i64 g.cells,.slice dy g.blocks.length ey] 25)
 generalize w3.alloc (.cells #[.slice ay g.params.length cy,.int .i64 g.arrays,.int .i64 g.cells,.slice dy g.blocks.length ey] 25)=w4 at *
 obtain ⟨lB1,cB1,fB1⟩:=B1.out
 obtain ⟨lB3,cB3,fB3⟩:=B3.out
 obtain ⟨lB4,cB4,fB4⟩:=B4.out
 have hkk:(k == k)=true:=by simp
 go_wp2_with fail
 refine (aE8).mono ?_
 rintro e w5 ⟨rfl,hb⟩
 clear lB1 cB1 fB1 lB3 cB3 fB3 lB4 cB4 fB4
 replace B1:=h! (B1.out.later hb)
 replace B3:=h! (B3.out.later hb)
 replace B4:=h! (B4.out.later hb)
 replace HA:=h! (HA.out.later hb)
 replace HB:=h! (HB.out.later hb)
 replace HW:=h! (HW.out.trans (hb.mono HW.out.size))
 clear hb
 obtain ⟨lB1,cB1,fB1⟩:=B1.out
 obtain ⟨lB3,cB3,fB3⟩:=B3.out
 obtain ⟨lB4,cB4,fB4⟩:=B4.out
 go_wp2_with fail
 refine (aA2 HA.out.now.reads HB.out.now.reads).mono ?_
 rintro e w6 ⟨he,hb⟩
 rw [decide_eq_true rfl] at he
 subst he
 clear lB1 cB1 fB1 lB3 cB3 fB3 lB4 cB4 fB4
 replace B1:=h! (B1.out.later hb)
 replace B3:=h! (B3.out.later hb)
 replace B4:=h! (B4.out.later hb)
 replace HA:=h! (HA.out.later hb)
 replace HB:=h! (HB.out.later hb)
 replace HW:=h! (HW.out.trans (hb.mono HW.out.size))
 clear hb
 obtain ⟨lB1,cB1,fB1⟩:=B1.out
 obtain ⟨lB3,cB3,fB3⟩:=B3.out
 obtain ⟨lB4,cB4,fB4⟩:=B4.out
 go_wp2
 go_ret
 exact ⟨rfl,HW.out⟩
end
end Go.Proofs.YtagabiidbbhhmaaGreat
