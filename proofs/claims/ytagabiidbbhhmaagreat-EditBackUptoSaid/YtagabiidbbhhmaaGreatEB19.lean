/- Part 19. -/
import Derived.Test.YtagabiidbbhhmaaGreatEB18
namespace Go.Proofs.YtagabiidbbhhmaaGreat
set_option maxHeartbeats 12800000
set_option linter.all false
open Go.RowKit
theorem nR {f:FuncD} (h:gS f=true):(eQ f).length <= 4112:=by
 have h0:=h
 unfold gS jA at h0
 simp only [aK,decide_eq_true_eq] at h0
 have h1:=h0.1.1.1.1.1.1.1.1.1
 have h2:=h0.1.1.2
 have key:∀ l:List BlockD,((l.flatMap gL).length:Int) <= (l.map gK).sum:=by
  intro l
  induction l with
  | nil=>simp
  | cons b l ih =>
   rw [bW,aI,cT,List.sum_cons]
   have e:((gL b).length:Int) <= gK b:=by
    unfold gL gK
    rw [aI,bE,bE]
    have:=List.length_filter_le (fun x:InstrD=>(shp0 x.op).result != 0) b.code
    omega
   omega
 have h3:=key f.blocks
 unfold jV at h2
 unfold eQ lW
 rw [aI,kK]
 omega
theorem pD {w:World} {v:Value} {f:FuncD} (hv:fJ w v f) (h0:(eQ f).length=0):Calls Tryz.prog 19 #[v] w (IdsR f w):=by
 have HV:=h! hv
 have H0:=h! h0
 obtain ⟨ap,cp,ab,cb,rfl,hp,ha,hc,hB⟩:=hv.form
 clear hp ha hc hB hv h0
 generalize hnp:f.params.length=np at *
 generalize hnb:f.blocks.length=nb at *
 generalize har:f.arrays=ar at *
 generalize hce:f.cells=ce at *
 have HNP:=h! hnp
 clear hnp hnb har hce
 go_enter Tryz.func19,Tryz.ntmps19
 go_upto_region 1 with (fail)
 have hA_:=(Below.refl w.heap.size w).alloc (aA _) (.cells #[.slice ap np cp,.int .i64 ar,.int .i64 ce,.slice ab nb cb] 25)
 have HW:=h! hA_
 clear hA_
 have B1:=h! (Box.new w #[.slice ap np cp,.int .i64 ar,.int .i64 ce,.slice ab nb cb] 25)
 generalize w.alloc (.cells #[.slice ap np cp,.int .i64 ar,.int .i64 ce,.slice ab nb cb] 25)=wv at *
 obtain ⟨lB1,cB1,fB1⟩:=B1.out
 go_wp2_with fail
 refine (oF (HV.out.below HW.out) (by rw [H0.out];omega)).mono ?_
 rintro e w1 ⟨u,rfl,hu,hb1⟩
 rw [H0.out] at hu
 obtain ⟨a,c,rfl⟩:=qI hu
 clear hu
 clear lB1 cB1 fB1
 replace B1:=h! (B1.out.later hb1)
 replace HW:=h! (HW.out.trans (hb1.mono HW.out.size))
 clear hb1
 obtain ⟨lB1,cB1,fB1⟩:=B1.out
 go_wp2_with fail
 have HO:Hid (Own (w1.alloc (.cells #[] 3)) w.heap.size [] 3 1 (.slice (some ⟨w1.heap.size,0,none⟩) 0 0) 0 []):=h! (jO HW.out.size (by simp) 1)
 have hbA:=(Below.refl w1.heap.size w1).alloc (aA _) (.cells #[] 3)
 clear lB1 cB1 fB1
 replace B1:=h! (B1.out.later hbA)
 replace HW:=h! (HW.out.trans (hbA.mono HW.out.size))
 clear hbA
 obtain ⟨lB1,cB1,fB1⟩:=B1.out
 obtain ⟨ga,hga⟩ : ∃ ga,ga=w1.heap.size:=⟨_,rfl⟩
 rw [<-hga] at HO ⊢
 clear hga
 generalize w1.alloc _=wa at *
 go_loopw [5,6] (fun u ii wr=>u = .slice (some ⟨ga,0,none⟩) 0 0/\ii = .int .i64 0/\wr=wa) (fun _ _ _=>0)
 case atStart=>exact ⟨rfl,rfl,rfl⟩
 obtain ⟨rfl,rfl,rfl⟩:=hrel
 have HID:Hid (IdsS f.params.length (eQ f) (eQ f).length []):=h! (by rw [H0.out];exact IdsS.start _ _)
 have HNW:Hid (New 3 w wr (.slice (some ⟨ga,0,none⟩) 0 0) []):=h! ⟨HO.out.row,by simp,by simp⟩
 go_wp2
 go_ret2
 exact ⟨HW.out,.inr ⟨HID.out.done,_,_,rfl,HNW.out,HID.out⟩⟩
theorem aE3 {w:World} {v:Value} {f:FuncD} (hv:fJ w v f) (hf:gS f=true):Calls Tryz.prog 19 #[v] w (IdsR f w):=by
 by_cases h:(eQ f).length=0
 ·exact pD hv h
 exact wP hv (by have:=nR hf;omega) (by omega)
theorem Ints.later {W W' : World} {v:Value} {xs:List Int} (h:Ints W v xs) (hb:Below W.heap.size W W'):Ints W' v xs:=h.below hb
theorem Row.later {W W' : World} {v:Value} {n size:Nat} {cs:List Value} (h:Row W v n size cs) (hb:Below W.heap.size W W'):Row W' v n size cs:=h.below hb
theorem aBO {w:World} {v:Value} {L:List Int} {x r:Int} (hv:Ints w v L) (hR:Rise L) (hr:aFN L x r) :
  Calls Tryz.prog 70 #[v,.int .i64 x] w fun e w'=>e = .returned (.int .i64 r)/\Below w.heap.size w w' :=
 (sZ hv hR hr).mono fun e w' ⟨he,hw⟩=>⟨he,hw ▸ Below.refl _ _⟩
def TypS (T:List (Int × Int)) (S:List Int) (i:Nat) (M:List Int):Prop := ∀ (k:Nat) (p:Int × Int),k < i -> T[k]? = some p -> ∀ j:Nat,S[j]? = some p.1 -> M[j]? = some p.2
theorem TypS.step {np:Nat} {T:List (Int × Int)} {S:List Int} (h:IdsS np T T.length S) {i:Nat} {M:List Int} (hM:TypS T S i M) (hl:M.length=S.length) {p:Int × Int} (hp:T[i]? = some p) {j:Nat} (hj:S[j]? = some p.1):TypS T S (i+1) (M.set j p.2):=by
 intro k q hk hq j2 hj2
 have hjl:j < M.length:=by rw [hl];exact (aD.1 hj).1
 by_cases e:k=i
 ·subst e
  rw [hp] at hq;cases hq
  have:j2=j:=by
   by_cases h1:j2 < j
   ·have:=h.rise.lt hj2 hj h1;omega
   by_cases h2:j < j2
   ·have:=h.rise.lt hj hj2 h2;omega
   omega
  subst this
  rw [List.getElem?_set_self hjl]
 have h1:=hM k q (by omega) hq j2 hj2
 by_cases e2:j=j2
 ·subst e2
  rw [hj] at hj2
  simp at hj2
  have hnd:=h.nodup
  rw [cO] at hnd
  have a1:(T.map (·.1))[i]? = some p.1:=by simp [hp]
  have a2:(T.map (·.1))[k]? = some p.1:=by simp [hq,hj2]
  have:=(List.getElem?_inj ((aD.1 a1).1) hnd).1 (a1.trans a2.symm)
  omega
 rw [List.getElem?_set_ne e2];exact h1
theorem TypS.find {np:Nat} {T:List (Int × Int)} {S M:List Int} (h:IdsS np T T.length S) (hM:TypS T S T.length M) {id:Int} {j:Nat} (hj:S[j]? = some id):∃ t,tyOf T id=some t/\M[j]? = some t:=by
 have hm:id ∈ T.map (·.1):=by have:=(h.mem id).1 (aG hj);rwa [cO] at this
 cases ht:tyOf T id with
 | none=>exact absurd hm (iB.1 ht)
 | some t =>
  obtain ⟨k,hk⟩:=bJ.1 (pY ht)
  exact ⟨t,rfl,hM k _ (aD.1 hk).1 hk j hj⟩
theorem aDJ {np:Nat} {T:List (Int × Int)} {S:List Int} (h:IdsS np T T.length S) {id:Int} (hno:id ∉ S):tyOf T id=none:=by
 rw [iB]
 intro hm
 exact hno ((h.mem id).2 (by rw [cO];exact hm))
set_option maxRecDepth 100000 in
theorem aBP {w:World} {v:Value} {f:FuncD} (hv:fJ w v f):Calls Tryz.prog 34 #[v] w fun e w'=>e = .returned (.int .i64 (eS f))/\Below w.heap.size w w':=by
 have HV:=h! hv
 obtain ⟨ap,cp,ab,cb,rfl,hp,ha,hc,hB⟩:=hv.form
 have HC:Hid (eS f=if gS f && idsF f then kI (eQ f) (nE f) else 2):=h! rfl
 obtain ⟨c,hcc⟩ : ∃ c,c=eS f:=⟨_,rfl⟩
 rw [<-hcc] at HC ⊢
 have hpl:=hp.1.big
 obtain ⟨np,hnp⟩ : ∃ np,np=f.params.length:=⟨_,rfl⟩
 obtain ⟨nb,hnb⟩ : ∃ nb,nb=f.blocks.length:=⟨_,rfl⟩
 obtain ⟨ar,har⟩ : ∃ ar,ar=f.arrays:=⟨_,rfl⟩
 obtain ⟨ce,hce⟩ : ∃ ce,ce=f.cells:=⟨_,rfl⟩
 rw [<-hnp, <-hnb, <-har, <-hce] at HV ⊢
 rw [<-hnp] at hpl
 have HNP:=h! hnp
 clear hp ha hc hB hv hnp hnb har hce hcc
 go_enter Tryz.func34,Tryz.ntmps34
 go_upto_region 1 with (fail)
 have hA_:=(Below.refl w.heap.size w).alloc (aA _) (.cells #[.slice ap np cp,.int .i64 ar,.int .i64 ce,.slice ab nb cb] 25)
 have HW:=h! hA_
 clear hA_
 have B1:=h! (Box.new w #[.slice ap np cp,.int .i64 ar,.int .i64 ce,.slice ab nb cb] 25)
 generalize w.alloc (.cells #[.slice ap np cp,.int .i64 ar,.int .i64 ce,.slice ab nb cb] 25)=wv at *
 obtain ⟨lB1,cB1,fB1⟩:=B1.out
 have HVC:=HV
 go_wp2_with fail
 refine (yP (HV.out.below HW.out)).mono ?_
 rintro e w1 ⟨rfl,hb1⟩
 clear lB1 cB1 fB1
 replace B1:=h! (B1.out.later hb1)
 replace HW:=h! (HW.out.trans (hb1.mono HW.out.size))
 clear hb1
 obtain ⟨lB1,cB1,fB1⟩:=B1.out
 cases hfo:gS f
 ·have HF:=h! hfo
  clear hfo
  go_wp2
  go_ret
  exact ⟨by rw [HC.out,HF.out];rfl,HW.out⟩
 have HF:=h! hfo
 clear hfo
 go_wp2_with fail
 refine (aE3 (HV.out.below HW.out) HF.out).mono ?_
 rintro e w2 ⟨hb2,hids⟩
 have hw1:=HW.out.size
 clear lB1 cB1 fB1
 replace B1:=h! (B1.out.later hb2)
 replace HW:=h! (HW.out.trans (hb2.mono HW.out.size))
 clear hb2
 obtain ⟨lB1,cB1,fB1⟩:=B1.out
 rcases hids with ⟨hno,rfl⟩ | ⟨hyes,u,S,rfl,hu,hS⟩
 ·have HNO:=h! hno
  clear hno
  go_wp2
  go_ret
  exact ⟨by rw [HC.out,HNO.out,Bool.and_false];rfl,HW.out⟩
 have HY:=h! hyes
 have HIS:=h! hS
 have HC2:Hid (c=kI (eQ f) (nE f)):=h! (by rw [HC.out,HF.out,HY.out];rfl)
 have hSn:S.length <= 4112:=by have:=hS.len;have:=nR HF.out;omega
 obtain ⟨ua,uc,rfl⟩:=hu.ints.form
 have HU:=h! hu.ints
 have HUL:Hid (∀ g,(Value.slice ua S.length uc).ownBlock=some g -> g < w2.heap.size):=h! (fun g hg=>(hu.fresh g hg).2)
 obtain ⟨n,hn⟩ : ∃ n,n=S.length:=⟨_,rfl⟩
 rw [<-hn] at HU HUL hSn ⊢
 have HN:=h! hn
 have HNV:Hid (n=(eQ f).length):=h! (by rw [hn,hS.len])
 clear hyes hu hS hn hw1 HC
 go_upto_region 7 with (at_make;refine kB rfl _ _ 22 3 rfl nJ n rfl rfl rfl rfl (by omega) ?_;intro w3 hblk hb3;have HB3:=h! hblk.out;have HBB:=h! hb3;clear hblk hb3)
 obtain ⟨gt,hgt⟩ : ∃ gt,gt=w2.heap.size:=⟨_,rfl⟩
 rw [<-hgt] at HB3 HUL
 simp only [<-hgt]
 have hgw:w.heap.size < gt:=by rw [hgt];exact lB1
 have HO:Hid (Own w3 w.heap.size [w.heap.size] 3 1 (.slice (some ⟨gt,0,none⟩) n n) n ((List.replicate n (0:Int)).map (.int .i64))):=h! ⟨⟨by simp,.inr ⟨gt,n,_,rfl,by omega,HB3.out,aA _,by unfold maxLen;omega,by simp,by simp⟩⟩,fun g hg hm=>by cases hg;simp at hm;omega⟩
 have hb3:=HBB.out
 replace HU:=h! (HU.out.below hb3)
 clear lB1 cB1 fB1
 replace B1:=h! (B1.out.later hb3)
 replace HW:=h! (HW.out.trans (hb3.mono HW.out.size))
 clear hb3
 obtain ⟨lB1,cB1,fB1⟩:=B1.out
 have HGT:=h! hgw
 clear HB3 HBB hgt hgw
 go_wp2_with fail
 refine (oF (HV.out.below HW.out) (by have:=nR HF.out;omega)).mono ?_
 rintro e w4 ⟨u2,rfl,hu2,hb4⟩
 obtain ⟨va,vc,rfl⟩:=qI hu2
 rw [<-HNV.out] at hu2 ⊢
 have HVR:Hid (Row w4 (.slice va n vc) n 2 (iX (eQ f))):=h! (Row.of_own hu2 (by omega))
 have HVL:Hid (∀ g,(Value.slice va n vc).ownBlock=some g -> g ≠ gt):=h! (fun g hg=>by
  rcases hu2.2 with ⟨h,_⟩ | ⟨g',cap,cur,h,hb,_⟩
  ·cases h;cases hg
  cases h;cases hg
  have:=(HO.out.lt (g:=gt) rfl).1
  show g' ≠ gt
  omega)
 replace HU:=h! (HU.out.below hb4)
 have HUL2:Hid (∀ g,(Value.slice ua n uc).ownBlock=some g -> g ≠ gt):=h! (fun g hg=>by have:=HUL.out g hg;omega)
 clear hu2 HUL
 clear lB1 cB1 fB1
 replace B1:=h! (B1.out.later hb4)
 replace HO:=h! (HO.out.later hb4)
 replace HW:=h! (HW.out.trans (hb4.mono HW.out.size))
 clear hb4
 obtain ⟨lB1,cB1,fB1⟩:=B1.out
 go_wp2_with fail
 have hTS0:TypS (eQ f) S 0 (List.replicate n (0:Int)):=fun k p h=>by omega
 have HTS0:=h! hTS0
 clear hTS0
 go_loopw [7] (fun ii wr => ∃ (i:Nat) (M:List Int),i <= n/\ii = .int .i64 i/\M.length=n/\TypS (eQ f) S i M/\Own wr w.heap.size [w.heap.size] 3 1 (.slice (some ⟨gt,0,none⟩) n n) n (M.map (.int .i64))/\Ints wr (.slice ua n uc) S/\Row wr (.slice va n vc) n 2 (iX (eQ f))/\Below w.heap.size w wr/\Box wr w.heap.size #[.slice ap np cp,.int .i64 ar,.int .i64 ce,.slice ab nb cb]) (fun ii _=>n - (intOf ii).toNat)
 case atStart=>exact ⟨0,_,aJ _,rfl,by simp,HTS0.out,HO.out,HU.out,HVR.out,HW.out,B1.out⟩
 obtain ⟨i,M,hi,rfl,hM,hTS,hO,hU,hVR,hW,hB1⟩:=hrel
 clear lB1 cB1 fB1
 have HML:=h! hM
 have HTS:=h! hTS
 replace HO:=h! hO
 replace HU:=h! hU
 replace HVR:=h! hVR
 replace HW:=h! hW
 replace B1:=h! hB1
 clear hM hTS hO hU hVR hW hB1 HTS0
 generalize wr=wi at *
 obtain ⟨lB1,cB1,fB1⟩:=B1.out
 by_cases hlti:i < n
 ·obtain ⟨p,hp⟩ : ∃ p,(eQ f)[i]? = some p:=⟨_,aC (by have:=HNV.out;omega)⟩
  obtain ⟨x,t⟩:=p
  have hxS:x ∈ S:=(HIS.out.mem x).2 (by rw [cO];exact aX.2 ⟨_,aG hp,rfl⟩)
  obtain ⟨j,hj⟩:=bJ.1 hxS
  have HPX:=h! hp
  have HJ:=h! hj
  have hjn:j < n:=by have:=(aD.1 hj).1;have:=HN.out;omega
  obtain ⟨va',vc',vb,vo,hve,hvc,hvm,hva,hvx⟩:=HVR.out.parts
  cases hve
  have hcl:=HVR.out.len
  obtain ⟨rfl,hvb⟩:=hva (by omega)
  have hc0:=hvx (i * 2) _ (mP _ _ _ hp).1
  have hc1:=hvx (i * 2+1) _ (mP _ _ _ hp).2
  simp only at hc0 hc1
  have HC01:=h! (⟨hc0,by rw [Nat.add_assoc];exact hc1,hvb⟩ : wi.cell? ⟨vb,vo+i * 2,none⟩=some (.int .i64 x)/\wi.cell? ⟨vb,vo+i * 2+1,none⟩=some (.int .i64 t)/\vb < wi.heap.size)
  have HTT:=h! (HTS.out.step HIS.out (by rw [HML.out,HN.out]) hp hj)
  clear hxS hp hj hva hvx hc0 hc1 hcl
  go_upto_region 11 with (fail)
  refine wp_region_grow 14 (fun kz=>match kz with | 7=>.const (.int .i64 j) | _=>.plain) (by kernel_rfl) (by kernel_rfl) ?_ (fun ν => ?_)
  ·(intro k;(try dsimp only);split <;> first | exact True.intro | (intro u w1 w2 hu hb;exact hu.below hb))
  simp only [aQ,aU,aT,aY]
  iterate 7 (refine Grow.val (v := ?_) rfl rfl (fun wg hbg hdg => ?_) ?_;rotate_left;(focus ((obtain ⟨lg0,cg0,fg0⟩:=B1.out.later hbg);(have h0:=(hbg.cell HC01.out.2.2).trans HC01.out.1);(have h1:=(hbg.cell HC01.out.2.2).trans HC01.out.2.1);clear hbg hdg;first | (go_simp;done) | (go_simp;with_reducible rfl)));simp only [Act.put,aB,aE,aF])
  refine Grow.call (f := ?_) (args := ?_) rfl (fun wg => ?_) (fun wg hbg hdg => ?_) ?_
  rotate_left 2
  focus (first | (go_simp;done) | (go_simp;refine And.intro ?_ ?_ <;> with_reducible rfl) | (go_simp;with_reducible rfl))
  focus exact Calls.mono (aBO (HU.out.below hbg) HIS.out.rise (.inl ⟨j,HJ.out,rfl⟩)) (fun e w2 ⟨he,hb2⟩=>⟨_,he,rfl,hb2⟩)
  simp only [Act.put,Known.val,aB,aE,aF]
  iterate 6 (refine Grow.val (v := ?_) rfl rfl (fun wg hbg hdg => ?_) ?_;rotate_left;(focus ((obtain ⟨lg0,cg0,fg0⟩:=B1.out.later hbg);(have h0:=(hbg.cell HC01.out.2.2).trans HC01.out.1);(have h1:=(hbg.cell HC01.out.2.2).trans HC01.out.2.1);clear hbg hdg;first | (go_simp;done) | (go_simp;with_reducible rfl)));simp only [Act.put,aB,aE,aF])
  intro wg hb hf hap
  clear hap
  clear lB1 cB1 fB1
  replace B1:=h! (B1.out.later hb)
  replace HO:=h! (HO.out.later hb)
  replace HU:=h! (HU.out.later hb)
  replace HVR:=h! (HVR.out.later hb)
  replace HW:=h! (HW.out.trans (hb.mono HW.out.size))
  clear hb
  obtain ⟨lB1,cB1,fB1⟩:=B1.out
  clear hf
  obtain ⟨gt',capt',hgv,_,_,hltt,_,_,hcellt,hfreet⟩:=HO.out.cells (by omega)
  cases hgv
  have hst:=hcellt j (.int .i64 (M.getD j 0)) (by rw [aM,eZ M j (by have:=HML.out;omega)];rfl)
  have hft:=hfreet j
  clear hcellt hfreet
  go_wp2
  go_roundw
  case rel=>exact ⟨i+1,M.set j t,hlti,by go_num,by rw [cE];exact HML.out,HTT.out,by have h:=HO.out.put (i:=j) hjn (.int .i64 t);rw [<-List.map_set] at h;exact h,HU.out.other _ (fun g hg=>HUL2.out g hg),HVR.out.other _ (fun g hg=>HVL.out g hg),HW.out.setCell (by have:=HGT.out;simp;omega) _,B1.out.other _ (by have:=HGT.out;simp;omega)⟩
  simp [intOf];omega
 obtain rfl:i=n:=by omega
 obtain ⟨n,hnn⟩ : ∃ n,n=i:=⟨_,rfl⟩
 obtain rfl:=hnn
 rw [HNV.out] at HTS
 go_wp2_with fail
 refine (qJ (HV.out.below HW.out) (jJ HF.out)).mono ?_
 rintro e w5 ⟨u3,rfl,hu3,hb5⟩
 obtain ⟨xa,xc,rfl⟩:=qI hu3
 have hm:=tS (jJ HF.out)
 obtain ⟨m,hmm⟩ : ∃ m,m=(uxF f).length:=⟨_,rfl⟩
 rw [<-hmm] at hu3 hm ⊢
 have HMM:=h! hmm
 have HUR:Hid (Row w5 (.slice xa m xc) m 5 (iG (uxF f))):=h! (Row.of_own hu3 (by omega))
 obtain ⟨lB1,cB1,fB1⟩:=B1.out
 clear lB1 cB1 fB1
 replace B1:=h! (B1.out.later hb5)
 replace HO:=h! (HO.out.later hb5)
 replace HU:=h! (HU.out.later hb5)
 replace HW:=h! (HW.out.trans (hb5.mono HW.out.size))
 clear hb5
 obtain ⟨lB1,cB1,fB1⟩:=B1.out
 clear lB1 cB1 fB1
 clear hu3 hmm B1 HVR
 have HPR:=h! (tT (jJ HF.out))
 have HE6:Hid (∀ x ∈ uxF f,tyOf (eQ f) x.id=none -> c=6):=h! (fun x hx ht=>by
  rw [HC2.out];unfold kI
  rw [if_pos]
  rw [<-HPR.out,List.any_map,eM]
  exact ⟨x,hx,by show (!(tyOf (eQ f) x.id).isSome)=true;rw [ht];rfl⟩)
 have HE0:Hid ((∀ x ∈ uxF f,(tyOf (eQ f) x.id).isSome=true) -> c=if (uxF f).any (fun x=>nK (eQ f) x.pair) then 3 else 0):=h! (fun h=>by
  rw [HC2.out];unfold kI
  rw [if_neg, <-HPR.out,List.any_map]
  ·rfl
  rw [<-HPR.out,List.any_map,eM]
  rintro ⟨x,hx,h2⟩
  have h3:(!(tyOf (eQ f) x.id).isSome)=true:=h2
  rw [h x hx] at h3;cases h3)
 go_wp2_with fail
 go_loopw [9,10] (fun ee kk wr => ∃ (k:Nat) (ek:Int),k <= m/\kk = .int .i64 k/\ee = .int .i64 ek/\ek=(if ((uxF f).take k).any (fun x=>nK (eQ f) x.pair) then 3 else 0)/\(∀ x ∈ (uxF f).take k,(tyOf (eQ f) x.id).isSome=true)/\Own wr w.heap.size [w.heap.size] 3 1 (.slice (some ⟨gt,0,none⟩) n n) n (M.map (.int .i64))/\Ints wr (.slice ua n uc) S/\Row wr (.slice xa m xc) m 5 (iG (uxF f))/\Below w.heap.size w wr) (fun _ kk _=>m - (intOf kk).toNat)
 case atStart=>exact ⟨0,0,aJ _,rfl,rfl,by simp,by simp,HO.out,HU.out,HUR.out,HW.out⟩
 obtain ⟨k,ek,hk,rfl,rfl,hek,hdef,hO,hU,hUR,hW⟩:=hrel
 have HEK:=h! hek
 have HDEF:=h! hdef
 replace HO:=h! hO
 replace HU:=h! hU
 replace HUR:=h! hUR
 replace HW:=h! hW
 clear hek hdef hO hU hUR hW
 by_cases hltk:k < m
 ·obtain ⟨x,hx⟩ : ∃ x,(uxF f)[k]? = some x:=⟨_,aC (by have:=HMM.out;omega)⟩
  have HTK:=h! (eP (uxF f) k x hx)
  have HMX:=h! (aG hx)
  obtain ⟨xa',xc',xb,xo,hxe,hxc,hxm,hxa,hxx⟩:=HUR.out.parts
  cases hxe
  have hcl:=HUR.out.len
  obtain ⟨rfl,hxb⟩:=hxa (by omega)
  obtain ⟨hu0,hu1,_,_,_⟩:=mQ _ _ _ hx
  have hc0:=hxx _ _ hu0
  have hc1:=hxx _ _ hu1
  rw [<-Nat.add_assoc] at hc1
  clear hxa hxx hu0 hu1 hcl hx
  by_cases hmem:x.id ∈ S
  ·obtain ⟨j,hj⟩:=bJ.1 hmem
   obtain ⟨t,ht,hMt⟩:=TypS.find HIS.out HTS.out hj
   have HJ:=h! hj
   have HT:=h! ht
   have hjn:j < n:=by have:=(aD.1 hj).1;have:=HN.out;omega
   obtain ⟨gt',capt',hgv,_,_,hltt,_,_,hcellt,_⟩:=HO.out.cells (by omega)
   cases hgv
   have hct:=hcellt j (.int .i64 t) (by rw [aM,hMt];rfl)
   clear hcellt hj ht hMt hmem
   have HFND:=h! (sZ HU.out HIS.out.rise (.inl ⟨j,HJ.out,rfl⟩))
   have HODD:Hid (nK (eQ f) x.pair=(x.typ != 0 && t != x.typ)):=h! (by
    unfold nK
    show (match tyOf (eQ f) x.id with | none=>false | some t=>x.typ != 0 && t != x.typ)=_
    rw [HT.out])
   have HDK:Hid (∀ z ∈ (uxF f).take (k+1),(tyOf (eQ f) z.id).isSome=true):=h! (fun z hz=>by
    rw [HTK.out,aN] at hz
    rcases hz with hz | hz
    ·exact HDEF.out z hz
    simp at hz;subst hz;rw [HT.out];rfl)
   have HAK:Hid (((uxF f).take (k+1)).any (fun x=>nK (eQ f) x.pair)=(((uxF f).take k).any (fun x=>nK (eQ f) x.pair) || (x.typ != 0 && t != x.typ))):=h! (by rw [HTK.out,List.any_append,List.any_cons,List.any_nil,Bool.or_false,HODD.out])
   cases h1:(x.typ != 0) <;> cases h2:(x.typ != t)
   all_goals
    have H1:=h! h1
    have H2:Hid ((t != x.typ)=_):=h! ((bne_comm (a:=t) (b:=x.typ)).trans h2)
    go_wp2_with (go_at_call 70;refine HFND.out.mono ?_;rintro e w6 ⟨rfl,rfl⟩)
    go_quiet (fail)
    go_wp2
    go_roundw
    case rel=>exact ⟨k+1,_,hltk,by go_num,rfl,by rw [HAK.out,H1.out,H2.out];first | (simp only [bF,Bool.and_false,bL,Bool.or_false];exact HEK.out) | simp,HDK.out,HO.out.later (eR (Below.refl _ _) _),HU.out.below (eR (Below.refl _ _) _),HUR.out.below (eR (Below.refl _ _) _),eR HW.out _⟩
    simp [intOf];omega
  have HNM:=h! hmem
  clear hmem
  have HFND:=h! (sZ HU.out HIS.out.rise (.inr ⟨HNM.out,rfl⟩))
  go_wp2_with (go_at_call 70;refine HFND.out.mono ?_;rintro e w6 ⟨rfl,rfl⟩)
  go_ret
  exact ⟨by rw [HE6.out x HMX.out (aDJ HIS.out HNM.out)];rfl,HW.out⟩
 obtain rfl:k=m:=by omega
 rw [aH (by have:=HMM.out;omega)] at HEK HDEF
 go_wp2
 go_ret
 exact ⟨by rw [HE0.out HDEF.out, <-HEK.out];rfl,HW.out⟩
end Go.Proofs.YtagabiidbbhhmaaGreat
