/- Part 19. -/
import Derived.Test.YtcmflfkpeodicaaGreatIRA18
namespace Go.Proofs.YtcmflfkpeodicaaGreat
set_option maxHeartbeats 12800000
set_option linter.all false
open Go.RowKit
theorem oA {f:FuncD} (h:gM f=true):(eR f).length <= 4112:=by
 have h0:=h
 unfold gM iH at h0
 simp only [aN,decide_eq_true_eq] at h0
 have h1:=h0.1.1.1.1.1.1.1.1.1
 have h2:=h0.1.1.2
 have key:∀ l:List BlockD,((l.flatMap iS).length:Int) <= (l.map gD).sum:=by
  intro l
  induction l with
  | nil=>simp
  | cons b l ih =>
   rw [cG,aQ,cR,List.sum_cons]
   have e:((iS b).length:Int) <= gD b:=by
    unfold iS gD
    rw [aQ,bD,bD]
    have:=List.length_filter_le (fun x:InstrD=>(shp0 x.op).result != 0) b.code
    omega
   omega
 have h3:=key f.blocks
 unfold kZ at h2
 unfold eR oU
 rw [aQ,kV]
 omega
theorem xF {w:World} {v:Value} {f:FuncD} (hv:gG w v f) (h0:(eR f).length=0):Calls Tryz.prog 41 #[v] w (IdsR f w):=by
 have HV:=h! hv
 have H0:=h! h0
 obtain ⟨ap,cp,ab,cb,rfl,hp,ha,hc,hB⟩:=hv.form
 clear hp ha hc hB hv h0
 generalize hnp:f.params.length=np at *
 generalize hnb:f.blocks.length=nb at *
 generalize har:f.arrays=ar at *
 generalize hce:f.cells=ce at *
 have HNP:=h! hnp
 clear hnp hnb har hce
 go_enter Tryz.func41,Tryz.ntmps41
 go_upto_region 1 with (fail)
 have hA_:=(Below.refl w.heap.size w).alloc (aF _) (.cells #[.slice ap np cp,.int .i64 ar,.int .i64 ce,.slice ab nb cb] 25)
 have HW:=h! hA_
 clear hA_
 have B1:=h! (Box.new w #[.slice ap np cp,.int .i64 ar,.int .i64 ce,.slice ab nb cb] 25)
 generalize w.alloc (.cells #[.slice ap np cp,.int .i64 ar,.int .i64 ce,.slice ab nb cb] 25)=wv at *
 obtain ⟨lB1,cB1,fB1⟩:=B1.out
 go_wp2_with fail
 refine (oG (HV.out.below HW.out) (by rw [H0.out];omega)).mono ?_
 rintro e w1 ⟨u,rfl,hu,hb1⟩
 rw [H0.out] at hu
 obtain ⟨a,c,rfl⟩:=tU hu
 clear hu
 clear lB1 cB1 fB1
 replace B1:=h! (B1.out.later hb1)
 replace HW:=h! (HW.out.trans (hb1.mono HW.out.size))
 clear hb1
 obtain ⟨lB1,cB1,fB1⟩:=B1.out
 go_wp2_with fail
 have HO:Hid (Own (w1.alloc (.cells #[] 3)) w.heap.size [] 3 1 (.slice (some ⟨w1.heap.size,0,none⟩) 0 0) 0 []):=h! (lQ HW.out.size (by simp) 1)
 have hbA:=(Below.refl w1.heap.size w1).alloc (aF _) (.cells #[] 3)
 clear lB1 cB1 fB1
 replace B1:=h! (B1.out.later hbA)
 replace HW:=h! (HW.out.trans (hbA.mono HW.out.size))
 clear hbA
 obtain ⟨lB1,cB1,fB1⟩:=B1.out
 obtain ⟨ga,hga⟩ : ∃ ga,ga=w1.heap.size:=⟨_,rfl⟩
 rw [<-hga] at HO ⊢
 clear hga
 generalize w1.alloc _=wa at *
 go_loopw [5,6] (fun u ii wr=>u = .slice (some ⟨ga,0,none⟩) 0 0/\ii = .int .i64 0/\wr=wa) (fun _ _ _=>0)
 case atStart=>exact ⟨rfl,rfl,rfl⟩
 obtain ⟨rfl,rfl,rfl⟩:=hrel
 have HID:Hid (IdsS f.params.length (eR f) (eR f).length []):=h! (by rw [H0.out];exact IdsS.start _ _)
 have HNW:Hid (New 3 w wr (.slice (some ⟨ga,0,none⟩) 0 0) []):=h! ⟨HO.out.row,by simp,by simp⟩
 go_wp2
 go_ret2
 exact ⟨HW.out,.inr ⟨HID.out.done,_,_,rfl,HNW.out,HID.out⟩⟩
theorem aDC {w:World} {v:Value} {f:FuncD} (hv:gG w v f) (hf:gM f=true):Calls Tryz.prog 41 #[v] w (IdsR f w):=by
 by_cases h:(eR f).length=0
 ·exact xF hv h
 exact xL hv (by have:=oA hf;omega) (by omega)
theorem Ints.later {W W' : World} {v:Value} {xs:List Int} (h:Ints W v xs) (hb:Below W.heap.size W W'):Ints W' v xs:=h.below hb
theorem Row.later {W W' : World} {v:Value} {n size:Nat} {cs:List Value} (h:Row W v n size cs) (hb:Below W.heap.size W W'):Row W' v n size cs:=h.below hb
theorem aB7 {w:World} {v:Value} {L:List Int} {x r:Int} (hv:Ints w v L) (hR:Rise L) (hr:aGY L x r) :
  Calls Tryz.prog 119 #[v,.int .i64 x] w fun e w'=>e = .returned (.int .i64 r)/\Below w.heap.size w w' :=
 (tT hv hR hr).mono fun e w' ⟨he,hw⟩=>⟨he,hw ▸ Below.refl _ _⟩
def TypS (T:List (Int × Int)) (S:List Int) (i:Nat) (M:List Int):Prop := ∀ (k:Nat) (p:Int × Int),k < i -> T[k]? = some p -> ∀ j:Nat,S[j]? = some p.1 -> M[j]? = some p.2
theorem TypS.step {np:Nat} {T:List (Int × Int)} {S:List Int} (h:IdsS np T T.length S) {i:Nat} {M:List Int} (hM:TypS T S i M) (hl:M.length=S.length) {p:Int × Int} (hp:T[i]? = some p) {j:Nat} (hj:S[j]? = some p.1):TypS T S (i+1) (M.set j p.2):=by
 intro k q hk hq j2 hj2
 have hjl:j < M.length:=by rw [hl];exact (aE.1 hj).1
 by_cases e:k=i
 ·subst e
  rw [hp] at hq;cases hq
  have:j2=j:=by
   by_cases h1:j2 < j
   ·have:=h.rise.lt hj2 hj h1;omega
   by_cases h2:j < j2
   ·have:=h.rise.lt hj hj2 h2;omega
   omega
  subst this
  rw [List.getElem?_set_self hjl]
 have h1:=hM k q (by omega) hq j2 hj2
 by_cases e2:j=j2
 ·subst e2
  rw [hj] at hj2
  simp at hj2
  have hnd:=h.nodup
  rw [cM] at hnd
  have a1:(T.map (·.1))[i]? = some p.1:=by simp [hp]
  have a2:(T.map (·.1))[k]? = some p.1:=by simp [hq,hj2]
  have:=(List.getElem?_inj ((aE.1 a1).1) hnd).1 (a1.trans a2.symm)
  omega
 rw [List.getElem?_set_ne e2];exact h1
theorem TypS.find {np:Nat} {T:List (Int × Int)} {S M:List Int} (h:IdsS np T T.length S) (hM:TypS T S T.length M) {id:Int} {j:Nat} (hj:S[j]? = some id):∃ t,tyOf T id=some t/\M[j]? = some t:=by
 have hm:id ∈ T.map (·.1):=by have:=(h.mem id).1 (aG hj);rwa [cM] at this
 cases ht:tyOf T id with
 | none=>exact absurd hm (jS.1 ht)
 | some t =>
  obtain ⟨k,hk⟩:=bJ.1 (qU ht)
  exact ⟨t,rfl,hM k _ (aE.1 hk).1 hk j hj⟩
theorem aEN {np:Nat} {T:List (Int × Int)} {S:List Int} (h:IdsS np T T.length S) {id:Int} (hno:id ∉ S):tyOf T id=none:=by
 rw [jS]
 intro hm
 exact hno ((h.mem id).2 (by rw [cM];exact hm))
set_option maxRecDepth 100000 in
theorem aB8 {w:World} {v:Value} {f:FuncD} (hv:gG w v f):Calls Tryz.prog 60 #[v] w fun e w'=>e = .returned (.int .i64 (eL f))/\Below w.heap.size w w':=by
 have HV:=h! hv
 obtain ⟨ap,cp,ab,cb,rfl,hp,ha,hc,hB⟩:=hv.form
 have HC:Hid (eL f=if gM f && idsF f then kI (eR f) (jD f) else 2):=h! rfl
 obtain ⟨c,hcc⟩ : ∃ c,c=eL f:=⟨_,rfl⟩
 rw [<-hcc] at HC ⊢
 have hpl:=hp.1.big
 obtain ⟨np,hnp⟩ : ∃ np,np=f.params.length:=⟨_,rfl⟩
 obtain ⟨nb,hnb⟩ : ∃ nb,nb=f.blocks.length:=⟨_,rfl⟩
 obtain ⟨ar,har⟩ : ∃ ar,ar=f.arrays:=⟨_,rfl⟩
 obtain ⟨ce,hce⟩ : ∃ ce,ce=f.cells:=⟨_,rfl⟩
 rw [<-hnp, <-hnb, <-har, <-hce] at HV ⊢
 rw [<-hnp] at hpl
 have HNP:=h! hnp
 clear hp ha hc hB hv hnp hnb har hce hcc
 go_enter Tryz.func60,Tryz.ntmps60
 go_upto_region 1 with (fail)
 have hA_:=(Below.refl w.heap.size w).alloc (aF _) (.cells #[.slice ap np cp,.int .i64 ar,.int .i64 ce,.slice ab nb cb] 25)
 have HW:=h! hA_
 clear hA_
 have B1:=h! (Box.new w #[.slice ap np cp,.int .i64 ar,.int .i64 ce,.slice ab nb cb] 25)
 generalize w.alloc (.cells #[.slice ap np cp,.int .i64 ar,.int .i64 ce,.slice ab nb cb] 25)=wv at *
 obtain ⟨lB1,cB1,fB1⟩:=B1.out
 have HVC:=HV
 go_wp2_with fail
 refine (yY (HV.out.below HW.out)).mono ?_
 rintro e w1 ⟨rfl,hb1⟩
 clear lB1 cB1 fB1
 replace B1:=h! (B1.out.later hb1)
 replace HW:=h! (HW.out.trans (hb1.mono HW.out.size))
 clear hb1
 obtain ⟨lB1,cB1,fB1⟩:=B1.out
 cases hfo:gM f
 ·have HF:=h! hfo
  clear hfo
  go_wp2
  go_ret
  exact ⟨by rw [HC.out,HF.out];rfl,HW.out⟩
 have HF:=h! hfo
 clear hfo
 go_wp2_with fail
 refine (aDC (HV.out.below HW.out) HF.out).mono ?_
 rintro e w2 ⟨hb2,hids⟩
 have hw1:=HW.out.size
 clear lB1 cB1 fB1
 replace B1:=h! (B1.out.later hb2)
 replace HW:=h! (HW.out.trans (hb2.mono HW.out.size))
 clear hb2
 obtain ⟨lB1,cB1,fB1⟩:=B1.out
 rcases hids with ⟨hno,rfl⟩ | ⟨hyes,u,S,rfl,hu,hS⟩
 ·have HNO:=h! hno
  clear hno
  go_wp2
  go_ret
  exact ⟨by rw [HC.out,HNO.out,Bool.and_false];rfl,HW.out⟩
 have HY:=h! hyes
 have HIS:=h! hS
 have HC2:Hid (c=kI (eR f) (jD f)):=h! (by rw [HC.out,HF.out,HY.out];rfl)
 have hSn:S.length <= 4112:=by have:=hS.len;have:=oA HF.out;omega
 obtain ⟨ua,uc,rfl⟩:=hu.ints.form
 have HU:=h! hu.ints
 have HUL:Hid (∀ g,(Value.slice ua S.length uc).ownBlock=some g -> g < w2.heap.size):=h! (fun g hg=>(hu.fresh g hg).2)
 obtain ⟨n,hn⟩ : ∃ n,n=S.length:=⟨_,rfl⟩
 rw [<-hn] at HU HUL hSn ⊢
 have HN:=h! hn
 have HNV:Hid (n=(eR f).length):=h! (by rw [hn,hS.len])
 clear hyes hu hS hn hw1 HC
 go_upto_region 7 with (at_make;refine gE rfl _ _ 22 3 rfl mA n rfl rfl rfl rfl (by omega) ?_;intro w3 hblk hb3;have HB3:=h! hblk.out;have HBB:=h! hb3;clear hblk hb3)
 obtain ⟨gt,hgt⟩ : ∃ gt,gt=w2.heap.size:=⟨_,rfl⟩
 rw [<-hgt] at HB3 HUL
 simp only [<-hgt]
 have hgw:w.heap.size < gt:=by rw [hgt];exact lB1
 have HO:Hid (Own w3 w.heap.size [w.heap.size] 3 1 (.slice (some ⟨gt,0,none⟩) n n) n ((List.replicate n (0:Int)).map (.int .i64))):=h! ⟨⟨by simp,.inr ⟨gt,n,_,rfl,by omega,HB3.out,aF _,by unfold maxLen;omega,by simp,by simp⟩⟩,fun g hg hm=>by cases hg;simp at hm;omega⟩
 have hb3:=HBB.out
 replace HU:=h! (HU.out.below hb3)
 clear lB1 cB1 fB1
 replace B1:=h! (B1.out.later hb3)
 replace HW:=h! (HW.out.trans (hb3.mono HW.out.size))
 clear hb3
 obtain ⟨lB1,cB1,fB1⟩:=B1.out
 have HGT:=h! hgw
 clear HB3 HBB hgt hgw
 go_wp2_with fail
 refine (oG (HV.out.below HW.out) (by have:=oA HF.out;omega)).mono ?_
 rintro e w4 ⟨u2,rfl,hu2,hb4⟩
 obtain ⟨va,vc,rfl⟩:=tU hu2
 rw [<-HNV.out] at hu2 ⊢
 have HVR:Hid (Row w4 (.slice va n vc) n 2 (kK (eR f))):=h! (Row.of_own hu2 (by omega))
 have HVL:Hid (∀ g,(Value.slice va n vc).ownBlock=some g -> g ≠ gt):=h! (fun g hg=>by
  rcases hu2.2 with ⟨h,_⟩ | ⟨g',cap,cur,h,hb,_⟩
  ·cases h;cases hg
  cases h;cases hg
  have:=(HO.out.lt (g:=gt) rfl).1
  show g' ≠ gt
  omega)
 replace HU:=h! (HU.out.below hb4)
 have HUL2:Hid (∀ g,(Value.slice ua n uc).ownBlock=some g -> g ≠ gt):=h! (fun g hg=>by have:=HUL.out g hg;omega)
 clear hu2 HUL
 clear lB1 cB1 fB1
 replace B1:=h! (B1.out.later hb4)
 replace HO:=h! (HO.out.later hb4)
 replace HW:=h! (HW.out.trans (hb4.mono HW.out.size))
 clear hb4
 obtain ⟨lB1,cB1,fB1⟩:=B1.out
 go_wp2_with fail
 have hTS0:TypS (eR f) S 0 (List.replicate n (0:Int)):=fun k p h=>by omega
 have HTS0:=h! hTS0
 clear hTS0
 go_loopw [7] (fun ii wr => ∃ (i:Nat) (M:List Int),i <= n/\ii = .int .i64 i/\M.length=n/\TypS (eR f) S i M/\Own wr w.heap.size [w.heap.size] 3 1 (.slice (some ⟨gt,0,none⟩) n n) n (M.map (.int .i64))/\Ints wr (.slice ua n uc) S/\Row wr (.slice va n vc) n 2 (kK (eR f))/\Below w.heap.size w wr/\Box wr w.heap.size #[.slice ap np cp,.int .i64 ar,.int .i64 ce,.slice ab nb cb]) (fun ii _=>n - (intOf ii).toNat)
 case atStart=>exact ⟨0,_,aP _,rfl,by simp,HTS0.out,HO.out,HU.out,HVR.out,HW.out,B1.out⟩
 obtain ⟨i,M,hi,rfl,hM,hTS,hO,hU,hVR,hW,hB1⟩:=hrel
 clear lB1 cB1 fB1
 have HML:=h! hM
 have HTS:=h! hTS
 replace HO:=h! hO
 replace HU:=h! hU
 replace HVR:=h! hVR
 replace HW:=h! hW
 replace B1:=h! hB1
 clear hM hTS hO hU hVR hW hB1 HTS0
 generalize wr=wi at *
 obtain ⟨lB1,cB1,fB1⟩:=B1.out
 by_cases hlti:i < n
 ·obtain ⟨p,hp⟩ : ∃ p,(eR f)[i]? = some p:=⟨_,aB (by have:=HNV.out;omega)⟩
  obtain ⟨x,t⟩:=p
  have hxS:x ∈ S:=(HIS.out.mem x).2 (by rw [cM];exact aY.2 ⟨_,aG hp,rfl⟩)
  obtain ⟨j,hj⟩:=bJ.1 hxS
  have HPX:=h! hp
  have HJ:=h! hj
  have hjn:j < n:=by have:=(aE.1 hj).1;have:=HN.out;omega
  obtain ⟨va',vc',vb,vo,hve,hvc,hvm,hva,hvx⟩:=HVR.out.parts
  cases hve
  have hcl:=HVR.out.len
  obtain ⟨rfl,hvb⟩:=hva (by omega)
  have hc0:=hvx (i * 2) _ (oT _ _ _ hp).1
  have hc1:=hvx (i * 2+1) _ (oT _ _ _ hp).2
  simp only at hc0 hc1
  have HC01:=h! (⟨hc0,by rw [Nat.add_assoc];exact hc1,hvb⟩ : wi.cell? ⟨vb,vo+i * 2,none⟩=some (.int .i64 x)/\wi.cell? ⟨vb,vo+i * 2+1,none⟩=some (.int .i64 t)/\vb < wi.heap.size)
  have HTT:=h! (HTS.out.step HIS.out (by rw [HML.out,HN.out]) hp hj)
  clear hxS hp hj hva hvx hc0 hc1 hcl
  go_upto_region 11 with (fail)
  refine wp_region_grow 14 (fun kz=>match kz with | 7=>.const (.int .i64 j) | _=>.plain) (by kernel_rfl) (by kernel_rfl) ?_ (fun ν => ?_)
  ·(intro k;(try dsimp only);split <;> first | exact True.intro | (intro u w1 w2 hu hb;exact hu.below hb))
  simp only [aK,aR,aM,aT]
  iterate 7 (refine Grow.val (v := ?_) rfl rfl (fun wg hbg hdg => ?_) ?_;rotate_left;(focus ((obtain ⟨lg0,cg0,fg0⟩:=B1.out.later hbg);(have h0:=(hbg.cell HC01.out.2.2).trans HC01.out.1);(have h1:=(hbg.cell HC01.out.2.2).trans HC01.out.2.1);clear hbg hdg;first | (go_simp;done) | (go_simp;with_reducible rfl)));simp only [Act.put,aA,aC,aD])
  refine Grow.call (f := ?_) (args := ?_) rfl (fun wg => ?_) (fun wg hbg hdg => ?_) ?_
  rotate_left 2
  focus (first | (go_simp;done) | (go_simp;refine And.intro ?_ ?_ <;> with_reducible rfl) | (go_simp;with_reducible rfl))
  focus exact Calls.mono (aB7 (HU.out.below hbg) HIS.out.rise (.inl ⟨j,HJ.out,rfl⟩)) (fun e w2 ⟨he,hb2⟩=>⟨_,he,rfl,hb2⟩)
  simp only [Act.put,Known.val,aA,aC,aD]
  iterate 6 (refine Grow.val (v := ?_) rfl rfl (fun wg hbg hdg => ?_) ?_;rotate_left;(focus ((obtain ⟨lg0,cg0,fg0⟩:=B1.out.later hbg);(have h0:=(hbg.cell HC01.out.2.2).trans HC01.out.1);(have h1:=(hbg.cell HC01.out.2.2).trans HC01.out.2.1);clear hbg hdg;first | (go_simp;done) | (go_simp;with_reducible rfl)));simp only [Act.put,aA,aC,aD])
  intro wg hb hf hap
  clear hap
  clear lB1 cB1 fB1
  replace B1:=h! (B1.out.later hb)
  replace HO:=h! (HO.out.later hb)
  replace HU:=h! (HU.out.later hb)
  replace HVR:=h! (HVR.out.later hb)
  replace HW:=h! (HW.out.trans (hb.mono HW.out.size))
  clear hb
  obtain ⟨lB1,cB1,fB1⟩:=B1.out
  clear hf
  obtain ⟨gt',capt',hgv,_,_,hltt,_,_,hcellt,hfreet⟩:=HO.out.cells (by omega)
  cases hgv
  have hst:=hcellt j (.int .i64 (M.getD j 0)) (by rw [aU,eX M j (by have:=HML.out;omega)];rfl)
  have hft:=hfreet j
  clear hcellt hfreet
  go_wp2
  go_roundw
  case rel=>exact ⟨i+1,M.set j t,hlti,by go_num,by rw [bY];exact HML.out,HTT.out,by have h:=HO.out.put (i:=j) hjn (.int .i64 t);rw [<-List.map_set] at h;exact h,HU.out.other _ (fun g hg=>HUL2.out g hg),HVR.out.other _ (fun g hg=>HVL.out g hg),HW.out.setCell (by have:=HGT.out;simp;omega) _,B1.out.other _ (by have:=HGT.out;simp;omega)⟩
  simp [intOf];omega
 obtain rfl:i=n:=by omega
 obtain ⟨n,hnn⟩ : ∃ n,n=i:=⟨_,rfl⟩
 obtain rfl:=hnn
 rw [HNV.out] at HTS
 go_wp2_with fail
 refine (yW (HV.out.below HW.out) (kF HF.out)).mono ?_
 rintro e w5 ⟨u3,rfl,hu3,hb5⟩
 obtain ⟨xa,xc,rfl⟩:=tU hu3
 have hm:=zA (kF HF.out)
 obtain ⟨m,hmm⟩ : ∃ m,m=(uxF f).length:=⟨_,rfl⟩
 rw [<-hmm] at hu3 hm ⊢
 have HMM:=h! hmm
 have HUR:Hid (Row w5 (.slice xa m xc) m 5 (iW (uxF f))):=h! (Row.of_own hu3 (by omega))
 obtain ⟨lB1,cB1,fB1⟩:=B1.out
 clear lB1 cB1 fB1
 replace B1:=h! (B1.out.later hb5)
 replace HO:=h! (HO.out.later hb5)
 replace HU:=h! (HU.out.later hb5)
 replace HW:=h! (HW.out.trans (hb5.mono HW.out.size))
 clear hb5
 obtain ⟨lB1,cB1,fB1⟩:=B1.out
 clear lB1 cB1 fB1
 clear hu3 hmm B1 HVR
 have HPR:=h! (uR (kF HF.out))
 have HE6:Hid (∀ x ∈ uxF f,tyOf (eR f) x.id=none -> c=6):=h! (fun x hx ht=>by
  rw [HC2.out];unfold kI
  rw [if_pos]
  rw [<-HPR.out,List.any_map,eG]
  exact ⟨x,hx,by show (!(tyOf (eR f) x.id).isSome)=true;rw [ht];rfl⟩)
 have HE0:Hid ((∀ x ∈ uxF f,(tyOf (eR f) x.id).isSome=true) -> c=if (uxF f).any (fun x=>kX (eR f) x.pair) then 3 else 0):=h! (fun h=>by
  rw [HC2.out];unfold kI
  rw [if_neg, <-HPR.out,List.any_map]
  ·rfl
  rw [<-HPR.out,List.any_map,eG]
  rintro ⟨x,hx,h2⟩
  have h3:(!(tyOf (eR f) x.id).isSome)=true:=h2
  rw [h x hx] at h3;cases h3)
 go_wp2_with fail
 go_loopw [9,10] (fun ee kk wr => ∃ (k:Nat) (ek:Int),k <= m/\kk = .int .i64 k/\ee = .int .i64 ek/\ek=(if ((uxF f).take k).any (fun x=>kX (eR f) x.pair) then 3 else 0)/\(∀ x ∈ (uxF f).take k,(tyOf (eR f) x.id).isSome=true)/\Own wr w.heap.size [w.heap.size] 3 1 (.slice (some ⟨gt,0,none⟩) n n) n (M.map (.int .i64))/\Ints wr (.slice ua n uc) S/\Row wr (.slice xa m xc) m 5 (iW (uxF f))/\Below w.heap.size w wr) (fun _ kk _=>m - (intOf kk).toNat)
 case atStart=>exact ⟨0,0,aP _,rfl,rfl,by simp,by simp,HO.out,HU.out,HUR.out,HW.out⟩
 obtain ⟨k,ek,hk,rfl,rfl,hek,hdef,hO,hU,hUR,hW⟩:=hrel
 have HEK:=h! hek
 have HDEF:=h! hdef
 replace HO:=h! hO
 replace HU:=h! hU
 replace HUR:=h! hUR
 replace HW:=h! hW
 clear hek hdef hO hU hUR hW
 by_cases hltk:k < m
 ·obtain ⟨x,hx⟩ : ∃ x,(uxF f)[k]? = some x:=⟨_,aB (by have:=HMM.out;omega)⟩
  have HTK:=h! (eP (uxF f) k x hx)
  have HMX:=h! (aG hx)
  obtain ⟨xa',xc',xb,xo,hxe,hxc,hxm,hxa,hxx⟩:=HUR.out.parts
  cases hxe
  have hcl:=HUR.out.len
  obtain ⟨rfl,hxb⟩:=hxa (by omega)
  obtain ⟨hu0,hu1,_,_,_⟩:=sH _ _ _ hx
  have hc0:=hxx _ _ hu0
  have hc1:=hxx _ _ hu1
  rw [<-Nat.add_assoc] at hc1
  clear hxa hxx hu0 hu1 hcl hx
  by_cases hmem:x.id ∈ S
  ·obtain ⟨j,hj⟩:=bJ.1 hmem
   obtain ⟨t,ht,hMt⟩:=TypS.find HIS.out HTS.out hj
   have HJ:=h! hj
   have HT:=h! ht
   have hjn:j < n:=by have:=(aE.1 hj).1;have:=HN.out;omega
   obtain ⟨gt',capt',hgv,_,_,hltt,_,_,hcellt,_⟩:=HO.out.cells (by omega)
   cases hgv
   have hct:=hcellt j (.int .i64 t) (by rw [aU,hMt];rfl)
   clear hcellt hj ht hMt hmem
   have HFND:=h! (tT HU.out HIS.out.rise (.inl ⟨j,HJ.out,rfl⟩))
   have HODD:Hid (kX (eR f) x.pair=(x.typ != 0 && t != x.typ)):=h! (by
    unfold kX
    show (match tyOf (eR f) x.id with | none=>false | some t=>x.typ != 0 && t != x.typ)=_
    rw [HT.out])
   have HDK:Hid (∀ z ∈ (uxF f).take (k+1),(tyOf (eR f) z.id).isSome=true):=h! (fun z hz=>by
    rw [HTK.out,aO] at hz
    rcases hz with hz | hz
    ·exact HDEF.out z hz
    simp at hz;subst hz;rw [HT.out];rfl)
   have HAK:Hid (((uxF f).take (k+1)).any (fun x=>kX (eR f) x.pair)=(((uxF f).take k).any (fun x=>kX (eR f) x.pair) || (x.typ != 0 && t != x.typ))):=h! (by rw [HTK.out,List.any_append,List.any_cons,List.any_nil,Bool.or_false,HODD.out])
   cases h1:(x.typ != 0) <;> cases h2:(x.typ != t)
   all_goals
    have H1:=h! h1
    have H2:Hid ((t != x.typ)=_):=h! ((bne_comm (a:=t) (b:=x.typ)).trans h2)
    go_wp2_with (go_at_call 119;refine HFND.out.mono ?_;rintro e w6 ⟨rfl,rfl⟩)
    go_quiet (fail)
    go_wp2
    go_roundw
    case rel=>exact ⟨k+1,_,hltk,by go_num,rfl,by rw [HAK.out,H1.out,H2.out];first | (simp only [Bool.false_and,Bool.and_false,cQ,Bool.or_false];exact HEK.out) | simp,HDK.out,HO.out.later (eK (Below.refl _ _) _),HU.out.below (eK (Below.refl _ _) _),HUR.out.below (eK (Below.refl _ _) _),eK HW.out _⟩
    simp [intOf];omega
  have HNM:=h! hmem
  clear hmem
  have HFND:=h! (tT HU.out HIS.out.rise (.inr ⟨HNM.out,rfl⟩))
  go_wp2_with (go_at_call 119;refine HFND.out.mono ?_;rintro e w6 ⟨rfl,rfl⟩)
  go_ret
  exact ⟨by rw [HE6.out x HMX.out (aEN HIS.out HNM.out)];rfl,HW.out⟩
 obtain rfl:k=m:=by omega
 rw [aI (by have:=HMM.out;omega)] at HEK HDEF
 go_wp2
 go_ret
 exact ⟨by rw [HE0.out HDEF.out, <-HEK.out];rfl,HW.out⟩
theorem aEO {w:World} {v:Value} {f:FuncD} (hv:gG w v f):Calls Tryz.prog 59 #[v] w fun e w'=>e = .returned (.int .i64 (eL f))/\Below w.heap.size w w':=by
 have HV:=h! hv
 obtain ⟨a,b,rfl,hp,ha,hc,hB⟩:=hv
 obtain ⟨ap,cp,rfl⟩:=hp.form
 obtain ⟨ab,cb,rfl⟩:=hB.form
 clear hp ha hc hB
 go_enter Tryz.func59,Tryz.ntmps59
 go_upto_region 1 with (fail)
 have hA_:=(Below.refl w.heap.size w).alloc (aF _) (.cells #[.slice ap f.params.length cp,.int .i64 f.arrays,.int .i64 f.cells,.slice ab f.blocks.length cb] 25)
 have HW:=h! hA_
 clear hA_
 have B1:=h! (Box.new w #[.slice ap f.params.length cp,.int .i64 f.arrays,.int .i64 f.cells,.slice ab f.blocks.length cb] 25)
 generalize w.alloc (.cells #[.slice ap f.params.length cp,.int .i64 f.arrays,.int .i64 f.cells,.slice ab f.blocks.length cb] 25)=wv at *
 obtain ⟨lB1,cB1,fB1⟩:=B1.out
 go_wp2_with fail
 refine (aC4 (HV.out.below HW.out)).mono ?_
 rintro e w2 ⟨hb,m,rfl,_,_⟩
 have HB:=h! (HW.out.trans (hb.mono HW.out.size))
 clear hb
 go_wp2
 go_ret
 exact ⟨rfl,HB.out⟩
def aIA (f:FuncD):Int:=if eL f=0 then kZ f else 0
theorem aAG {xs ys:List Int} (hl:xs.length=ys.length) (h:∀ j,j < xs.length -> xs.getD j 0=ys.getD j 0):xs=ys:=by
 apply List.ext_getElem hl
 intro i h1 h2
 have:=h i h1
 simpa [List.getD_eq_getElem?_getD,h1,h2] using this
theorem qP {w:World} {u v:Value} {xs ys:List Int} (hu:Ints w u xs) (hv:Ints w v ys) :
  Calls Tryz.prog 18 #[u,v] w fun e w'=>e = .returned (.bool (decide (xs=ys))) /\ ∃ n,w' = w.drewN n:=by
 have hl1:=hu.le
 have hl2:=hv.le
 obtain ⟨a1,c1,b1,o1,rfl,hc1,hm1,ha1,hx⟩:=hu.parts
 obtain ⟨a2,c2,b2,o2,rfl,hc2,hm2,ha2,hy⟩:=hv.parts
 clear hu hv
 generalize H1:xs.length=n1 at *
 generalize H2:ys.length=n2 at *
 have G1:=h! H1
 have G2:=h! H2
 clear H1 H2
 by_cases hne:n1=n2
 ·subst hne
  go_enter Tryz.func18,Tryz.ntmps18
  go_wp2
  go_loopw [4,5] (fun r i wr=>r = .bool false /\ ∃ k:Nat,k <= n1/\i = .int .i64 k/\(∀ j,j < k -> xs.getD j 0=ys.getD j 0) /\ ∃ n,wr=w.drewN n) (fun _ i _=>n1 - (intOf i).toNat)
  case atStart=>exact ⟨rfl,0,by omega,rfl,by simp,0,rfl⟩
  obtain ⟨rfl,k,hk,rfl,hsame,n,rfl⟩:=hrel
  have HS:=h! hsame
  clear hsame
  by_cases hlt:k < n1
  ·obtain ⟨rfl, -⟩:=ha1 (by omega)
   obtain ⟨rfl, -⟩:=ha2 (by omega)
   have hxk:=hx k hlt
   have hyk:=hy k hlt
   clear hx hy ha1 ha2
   generalize G3:xs.getD k 0=p at *
   generalize G4:ys.getD k 0=q at *
   have H3:=h! G3
   have H4:=h! G4
   clear G3 G4
   by_cases hpq:p=q
   ·subst hpq
    go_wp2
    go_quiet (fail)
    go_wp2
    go_roundw
    case rel =>
     refine ⟨rfl,k+1,by omega,by go_num, ?_,_,rfl⟩
     intro j hj
     by_cases e:j=k
     ·subst e;rw [H3.out,H4.out]
     exact HS.out j (by omega)
    simp [intOf];omega
   go_wp2
   go_quiet (fail)
   go_wp2
   go_ret
   exact ⟨fS (decide_eq_false (fun e=>hpq (by rw [<-H3.out, <-H4.out,e]))).symm,aBE _ _ _⟩
  have hkn:k=n1:=by omega
  subst hkn
  go_wp2
  go_ret
  exact ⟨fS (decide_eq_true (aAG (by rw [G1.out,G2.out]) (by rw [G1.out];exact HS.out))).symm,_,rfl⟩
 ·go_enter Tryz.func18,Tryz.ntmps18
  go_wp2
  go_ret
  exact ⟨fS (decide_eq_false (fun e=>hne (by rw [<-G1.out, <-G2.out,e]))).symm,0,rfl⟩
theorem aIB {w:World} {u v:Value} {xs ys:List Int} (hu:Ints w u xs) (hv:Ints w v ys) :
  Calls Tryz.prog 18 #[u,v] w fun e w'=>e = .returned (.bool (decide (xs=ys)))/\Below w.heap.size w w':=by
 refine (qP hu hv).mono ?_
 rintro e w' ⟨rfl,nd,rfl⟩
 exact ⟨rfl,eK (Below.refl _ _) nd⟩
def iO:FuncD:=⟨[],0,0,[⟨[],[⟨1,0,[],5⟩],⟨3,0,[],0⟩⟩]⟩
theorem qQ {W:World}:Ints W (.slice none 0 0) []:=⟨Row.nil,by simp⟩
theorem rV {W:World} {bi bb:Nat} (hi:Box W bi #[.int .i64 1,.int .i64 0,.slice none 0 0,.int .i64 5]) (hb:Box W bb #[.slice none 0 0,.slice (some ⟨bi,0,none⟩) 1 1,.int .i64 3,.int .i64 0,.slice none 0 0,.int .i64 0]) :
  gG W (.agg #[.slice none 0 0,.int .i64 0,.int .i64 0,.slice (some ⟨bb,0,none⟩) 1 1]) iO:=by
 refine ⟨_,_,rfl,qQ,⟨by decide,by decide⟩,⟨by decide,by decide⟩,_,Row.of_box (n:=1) (size:=6) hb rfl (by omega),fun j x hj => ?_⟩
 obtain rfl:j=0:=by have:=(aE.1 hj).1;simp [iO] at this;omega
 simp [iO] at hj
 subst hj
 refine ⟨_,_,_,rfl,eQ.nil,⟨_,Row.of_box (n:=1) (size:=4) hi rfl (by omega),fun j x hj => ?_⟩,_,rfl,qQ,⟨by decide,by decide⟩,⟨by decide,by decide⟩,by decide,by decide⟩
 obtain rfl:j=0:=by have:=(aE.1 hj).1;simp at this;omega
 simp at hj
 subst hj
 exact ⟨_,rfl,qQ,⟨by decide,by decide⟩,⟨by decide,by decide⟩,by decide,by decide⟩
theorem tM:eL iO=0/\aIA iO=2:=by
 constructor <;> decide
end Go.Proofs.YtcmflfkpeodicaaGreat
