/- Part 19. -/
import Derived.Test.YtagabiidbbhhmaaGreatER18
namespace Go.Proofs.YtagabiidbbhhmaaGreat
set_option maxHeartbeats 12800000
set_option linter.all false
open Go.RowKit
theorem oL {f:FuncD} (h:gW f=true):(fJ f).length <= 4112:=by
 have h0:=h
 unfold gW jG at h0
 simp only [aL,decide_eq_true_eq] at h0
 have h1:=h0.1.1.1.1.1.1.1.1.1
 have h2:=h0.1.1.2
 have aa:∀ l:List BlockD,((l.flatMap iX).length:Int) <= (l.map hJ).sum:=by
  intro l
  induction l with
  | nil=>simp
  | cons b l ih =>
   rw [cD,aI,cY,List.sum_cons]
   have e:((iX b).length:Int) <= hJ b:=by
    unfold iX hJ
    rw [aI,aW,aW]
    have:=List.length_filter_le (fun x:InstrD=>(shp0 x.op).result != 0) b.code
    omega
   omega
 have h3:=aa f.blocks
 unfold lJ at h2
 unfold fJ oC
 rw [aI,kY]
 omega
theorem xS {w:World} {v:Value} {f:FuncD} (hv:fU w v f) (h0:(fJ f).length=0):Calls Tryz.prog 19 #[v] w (IdsR f w):=by
 have HV:=h! hv
 have H0:=h! h0
 obtain ⟨ap,cp,ab,cb,rfl,hp,ha,hc,hB⟩:=hv.form
 clear hp ha hc hB hv h0
 generalize hnp:f.params.length=np at *
 generalize hnb:f.blocks.length=nb at *
 generalize har:f.arrays=ar at *
 generalize hce:f.cells=ce at *
 have HNP:=h! hnp
 clear hnp hnb har hce
 go_enter Tryz.func19,Tryz.ntmps19
 go_upto_region 1 with (fail)
 have ah:=(Below.refl w.heap.size w).alloc (aB _) (.cells #[.slice ap np cp,.int .i64 ar,.int .i64 ce,.slice ab nb cb] 25)
 have HW:=h! ah
 clear ah
 have B1:=h! (Box.new w #[.slice ap np cp,.int .i64 ar,.int .i64 ce,.slice ab nb cb] 25)
 generalize w.alloc (.cells #[.slice ap np cp,.int .i64 ar,.int .i64 ce,.slice ab nb cb] 25)=wv at *
 obtain ⟨ad,aa,ac⟩:=B1.out
 go_wp2_with fail
 refine (oS (HV.out.below HW.out) (by rw [H0.out];omega)).mono ?_
 rintro e w1 ⟨u,rfl,hu,af⟩
 rw [H0.out] at hu
 obtain ⟨a,c,rfl⟩:=tX hu
 clear hu
 clear ad aa ac
 replace B1:=h! (B1.out.later af)
 replace HW:=h! (HW.out.trans (af.mono HW.out.size))
 clear af
 obtain ⟨ad,aa,ac⟩:=B1.out
 go_wp2_with fail
 have HO:Hid (Own (w1.alloc (.cells #[] 3)) w.heap.size [] 3 1 (.slice (some ⟨w1.heap.size,0,none⟩) 0 0) 0 []):=h! (kE HW.out.size (by simp) 1)
 have ae:=(Below.refl w1.heap.size w1).alloc (aB _) (.cells #[] 3)
 clear ad aa ac
 replace B1:=h! (B1.out.later ae)
 replace HW:=h! (HW.out.trans (ae.mono HW.out.size))
 clear ae
 obtain ⟨ad,aa,ac⟩:=B1.out
 obtain ⟨ga,ai⟩ : ∃ ga,ga=w1.heap.size:=⟨_,rfl⟩
 rw [<-ai] at HO ⊢
 clear ai
 generalize w1.alloc _=wa at *
 go_loopw [5,6] (fun u ii wr=>u = .slice (some ⟨ga,0,none⟩) 0 0/\ii = .int .i64 0/\wr=wa) (fun _ _ _=>0)
 case atStart=>exact ⟨rfl,rfl,rfl⟩
 obtain ⟨rfl,rfl,rfl⟩:=hrel
 have ag:Hid (IdsS f.params.length (fJ f) (fJ f).length []):=h! (by rw [H0.out];exact IdsS.start _ _)
 have aj:Hid (New 3 w wr (.slice (some ⟨ga,0,none⟩) 0 0) []):=h! ⟨HO.out.row,by simp,by simp⟩
 go_wp2
 go_ret2
 exact ⟨HW.out,.inr ⟨ag.out.done,_,_,rfl,aj.out,ag.out⟩⟩
theorem aFX {w:World} {v:Value} {f:FuncD} (hv:fU w v f) (hf:gW f=true):Calls Tryz.prog 19 #[v] w (IdsR f w):=by
 by_cases h:(fJ f).length=0
 ·exact xS hv h
 exact xB hv (by have:=oL hf;omega) (by omega)
theorem Ints.later {W W' : World} {v:Value} {xs:List Int} (h:Ints W v xs) (hb:Below W.heap.size W W'):Ints W' v xs:=h.below hb
theorem Row.later {W W' : World} {v:Value} {n size:Nat} {cs:List Value} (h:Row W v n size cs) (hb:Below W.heap.size W W'):Row W' v n size cs:=h.below hb
theorem aCZ {w:World} {v:Value} {L:List Int} {x r:Int} (hv:Ints w v L) (hR:Rise L) (hr:aFP L x r) :
  Calls Tryz.prog 70 #[v,.int .i64 x] w fun e w'=>e = .returned (.int .i64 r)/\Below w.heap.size w w' :=
 (tW hv hR hr).mono fun e w' ⟨he,hw⟩=>⟨he,hw ▸ Below.refl _ _⟩
def TypS (T:List (Int × Int)) (S:List Int) (i:Nat) (M:List Int):Prop := ∀ (k:Nat) (p:Int × Int),k < i -> T[k]? = some p -> ∀ j:Nat,S[j]? = some p.1 -> M[j]? = some p.2
theorem TypS.step {np:Nat} {T:List (Int × Int)} {S:List Int} (h:IdsS np T T.length S) {i:Nat} {M:List Int} (hM:TypS T S i M) (hl:M.length=S.length) {p:Int × Int} (hp:T[i]? = some p) {j:Nat} (hj:S[j]? = some p.1):TypS T S (i+1) (M.set j p.2):=by
 intro k q hk hq j2 aa
 have ac:j < M.length:=by rw [hl];exact (aF.1 hj).1
 by_cases e:k=i
 ·subst e
  rw [hp] at hq;cases hq
  have:j2=j:=by
   by_cases h1:j2 < j
   ·have:=h.rise.lt aa hj h1;omega
   by_cases h2:j < j2
   ·have:=h.rise.lt hj aa h2;omega
   omega
  subst this
  rw [eC ac]
 have h1:=hM k q (by omega) hq j2 aa
 by_cases e2:j=j2
 ·subst e2
  rw [hj] at aa
  simp at aa
  have ab:=h.nodup
  rw [cX] at ab
  have a1:(T.map (·.1))[i]? = some p.1:=by simp [hp]
  have a2:(T.map (·.1))[k]? = some p.1:=by simp [hq,aa]
  have:=(List.getElem?_inj ((aF.1 a1).1) ab).1 (a1.trans a2.symm)
  omega
 rw [List.getElem?_set_ne e2];exact h1
theorem TypS.find {np:Nat} {T:List (Int × Int)} {S M:List Int} (h:IdsS np T T.length S) (hM:TypS T S T.length M) {id:Int} {j:Nat} (hj:S[j]? = some id):∃ t,tyOf T id=some t/\M[j]? = some t:=by
 have hm:id ∈ T.map (·.1):=by have:=(h.mem id).1 (aG hj);rwa [cX] at this
 cases ht:tyOf T id with
 | none=>exact absurd hm (gK.1 ht)
 | some t =>
  obtain ⟨k,hk⟩:=bL.1 (mE ht)
  exact ⟨t,rfl,hM k _ (aF.1 hk).1 hk j hj⟩
theorem aEI {np:Nat} {T:List (Int × Int)} {S:List Int} (h:IdsS np T T.length S) {id:Int} (hno:id ∉ S):tyOf T id=none:=by
 rw [gK]
 intro hm
 exact hno ((h.mem id).2 (by rw [cX];exact hm))
set_option maxRecDepth 100000 in
theorem aC0 {w:World} {v:Value} {f:FuncD} (hv:fU w v f):Calls Tryz.prog 34 #[v] w fun e w'=>e = .returned (.int .i64 (eZ f))/\Below w.heap.size w w':=by
 have HV:=h! hv
 obtain ⟨ap,cp,ab,cb,rfl,hp,ha,hc,hB⟩:=hv.form
 have HC:Hid (eZ f=if gW f && idsF f then kI (fJ f) (lD f) else 2):=h! rfl
 obtain ⟨c,ci⟩ : ∃ c,c=eZ f:=⟨_,rfl⟩
 rw [<-ci] at HC ⊢
 have dq:=hp.1.big
 obtain ⟨np,bg⟩ : ∃ np,np=f.params.length:=⟨_,rfl⟩
 obtain ⟨nb,cr⟩ : ∃ nb,nb=f.blocks.length:=⟨_,rfl⟩
 obtain ⟨ar,cB⟩ : ∃ ar,ar=f.arrays:=⟨_,rfl⟩
 obtain ⟨ce,cc⟩ : ∃ ce,ce=f.cells:=⟨_,rfl⟩
 rw [<-bg, <-cr, <-cB, <-cc] at HV ⊢
 rw [<-bg] at dq
 have HNP:=h! bg
 clear hp ha hc hB hv bg cr cB cc ci
 go_enter Tryz.func34,Tryz.ntmps34
 go_upto_region 1 with (fail)
 have ck:=(Below.refl w.heap.size w).alloc (aB _) (.cells #[.slice ap np cp,.int .i64 ar,.int .i64 ce,.slice ab nb cb] 25)
 have HW:=h! ck
 clear ck
 have B1:=h! (Box.new w #[.slice ap np cp,.int .i64 ar,.int .i64 ce,.slice ab nb cb] 25)
 generalize w.alloc (.cells #[.slice ap np cp,.int .i64 ar,.int .i64 ce,.slice ab nb cb] 25)=wv at *
 obtain ⟨ad,af,ae⟩:=B1.out
 have HVC:=HV
 go_wp2_with fail
 refine (zY (HV.out.below HW.out)).mono ?_
 rintro e w1 ⟨rfl,bv⟩
 clear ad af ae
 replace B1:=h! (B1.out.later bv)
 replace HW:=h! (HW.out.trans (bv.mono HW.out.size))
 clear bv
 obtain ⟨ad,af,ae⟩:=B1.out
 cases hfo:gW f
 ·have HF:=h! hfo
  clear hfo
  go_wp2
  go_ret
  exact ⟨by rw [HC.out,HF.out];rfl,HW.out⟩
 have HF:=h! hfo
 clear hfo
 go_wp2_with fail
 refine (aFX (HV.out.below HW.out) HF.out).mono ?_
 rintro e w2 ⟨aq,bm⟩
 have dr:=HW.out.size
 clear ad af ae
 replace B1:=h! (B1.out.later aq)
 replace HW:=h! (HW.out.trans (aq.mono HW.out.size))
 clear aq
 obtain ⟨ad,af,ae⟩:=B1.out
 rcases bm with ⟨cv,rfl⟩ | ⟨aw,u,S,rfl,hu,hS⟩
 ·have da:=h! cv
  clear cv
  go_wp2
  go_ret
  exact ⟨by rw [HC.out,da.out,Bool.and_false];rfl,HW.out⟩
 have HY:=h! aw
 have ak:=h! hS
 have cd:Hid (c=kI (fJ f) (lD f)):=h! (by rw [HC.out,HF.out,HY.out];rfl)
 have df:S.length <= 4112:=by have:=hS.len;have:=oL HF.out;omega
 obtain ⟨ua,uc,rfl⟩:=hu.ints.form
 have HU:=h! hu.ints
 have bh:Hid (∀ g,(Value.slice ua S.length uc).ownBlock=some g -> g < w2.heap.size):=h! (fun g hg=>(hu.fresh g hg).2)
 obtain ⟨n,hn⟩ : ∃ n,n=S.length:=⟨_,rfl⟩
 rw [<-hn] at HU bh df ⊢
 have HN:=h! hn
 have bn:Hid (n=(fJ f).length):=h! (by rw [hn,hS.len])
 clear aw hu hS hn dr HC
 go_upto_region 7 with (at_make;refine kK rfl _ _ 22 3 rfl mI n rfl rfl rfl rfl (by omega) ?_;intro w3 ax al;have bj:=h! ax.out;have cf:=h! al;clear ax al)
 obtain ⟨gt,bf⟩ : ∃ gt,gt=w2.heap.size:=⟨_,rfl⟩
 rw [<-bf] at bj bh
 simp only [<-bf]
 have cy:w.heap.size < gt:=by rw [bf];exact ad
 have HO:Hid (Own w3 w.heap.size [w.heap.size] 3 1 (.slice (some ⟨gt,0,none⟩) n n) n ((List.replicate n (0:Int)).map (.int .i64))):=h! ⟨⟨by simp,.inr ⟨gt,n,_,rfl,by omega,bj.out,aB _,by unfold maxLen;omega,by simp,by simp⟩⟩,fun g hg hm=>by cases hg;simp at hm;omega⟩
 have al:=cf.out
 replace HU:=h! (HU.out.below al)
 clear ad af ae
 replace B1:=h! (B1.out.later al)
 replace HW:=h! (HW.out.trans (al.mono HW.out.size))
 clear al
 obtain ⟨ad,af,ae⟩:=B1.out
 have co:=h! cy
 clear bj cf bf cy
 go_wp2_with fail
 refine (oS (HV.out.below HW.out) (by have:=oL HF.out;omega)).mono ?_
 rintro e w4 ⟨u2,rfl,hu2,bc⟩
 obtain ⟨va,vc,rfl⟩:=tX hu2
 rw [<-bn.out] at hu2 ⊢
 have ah:Hid (Row w4 (.slice va n vc) n 2 (iH (fJ f))):=h! (Row.of_own hu2 (by omega))
 have dj:Hid (∀ g,(Value.slice va n vc).ownBlock=some g -> g ≠ gt):=h! (fun g hg=>by
  rcases hu2.2 with ⟨h,_⟩ | ⟨g',cap,cur,h,hb,_⟩
  ·cases h;cases hg
  cases h;cases hg
  have:=(HO.out.lt (g:=gt) rfl).1
  show g' ≠ gt
  omega)
 replace HU:=h! (HU.out.below bc)
 have bs:Hid (∀ g,(Value.slice ua n uc).ownBlock=some g -> g ≠ gt):=h! (fun g hg=>by have:=bh.out g hg;omega)
 clear hu2 bh
 clear ad af ae
 replace B1:=h! (B1.out.later bc)
 replace HO:=h! (HO.out.later bc)
 replace HW:=h! (HW.out.trans (bc.mono HW.out.size))
 clear bc
 obtain ⟨ad,af,ae⟩:=B1.out
 go_wp2_with fail
 have ba:TypS (fJ f) S 0 (List.replicate n (0:Int)):=fun k p h=>by omega
 have ao:=h! ba
 clear ba
 go_loopw [7] (fun ii wr => ∃ (i:Nat) (M:List Int),i <= n/\ii = .int .i64 i/\M.length=n/\TypS (fJ f) S i M/\Own wr w.heap.size [w.heap.size] 3 1 (.slice (some ⟨gt,0,none⟩) n n) n (M.map (.int .i64))/\Ints wr (.slice ua n uc) S/\Row wr (.slice va n vc) n 2 (iH (fJ f))/\Below w.heap.size w wr/\Box wr w.heap.size #[.slice ap np cp,.int .i64 ar,.int .i64 ce,.slice ab nb cb]) (fun ii _=>n - (intOf ii).toNat)
 case atStart=>exact ⟨0,_,aJ _,rfl,by simp,ao.out,HO.out,HU.out,ah.out,HW.out,B1.out⟩
 obtain ⟨i,M,hi,rfl,hM,cs,hO,hU,cn,hW,bO⟩:=hrel
 clear ad af ae
 have bq:=h! hM
 have br:=h! cs
 replace HO:=h! hO
 replace HU:=h! hU
 replace ah:=h! cn
 replace HW:=h! hW
 replace B1:=h! bO
 clear hM cs hO hU cn hW bO ao
 generalize wr=wi at *
 obtain ⟨ad,af,ae⟩:=B1.out
 by_cases hlti:i < n
 ·obtain ⟨p,hp⟩ : ∃ p,(fJ f)[i]? = some p:=⟨_,aC (by have:=bn.out;omega)⟩
  obtain ⟨x,t⟩:=p
  have cg:x ∈ S:=(ak.out.mem x).2 (by rw [cX];exact aX.2 ⟨_,aG hp,rfl⟩)
  obtain ⟨j,hj⟩:=bL.1 cg
  have HPX:=h! hp
  have HJ:=h! hj
  have cz:j < n:=by have:=(aF.1 hj).1;have:=HN.out;omega
  obtain ⟨va',vc',vb,vo,dl,hvc,hvm,cl,bo⟩:=ah.out.parts
  cases dl
  have bk:=ah.out.len
  obtain ⟨rfl,de⟩:=cl (by omega)
  have bd:=bo (i * 2) _ (mY _ _ _ hp).1
  have az:=bo (i * 2+1) _ (mY _ _ _ hp).2
  simp only at bd az
  have ac:=h! (⟨bd,by rw [Nat.add_assoc];exact az,de⟩ : wi.cell? ⟨vb,vo+i * 2,none⟩=some (.int .i64 x)/\wi.cell? ⟨vb,vo+i * 2+1,none⟩=some (.int .i64 t)/\vb < wi.heap.size)
  have cM:=h! (br.out.step ak.out (by rw [bq.out,HN.out]) hp hj)
  clear cg hp hj cl bo bd az bk
  go_upto_region 11 with (fail)
  refine wp_region_grow 14 (fun kz=>match kz with | 7=>.const (.int .i64 j) | _=>.plain) (by kernel_rfl) (by kernel_rfl) ?_ (fun ν => ?_)
  ·(intro k;(try dsimp only);split <;> first | exact True.intro | (intro u w1 w2 hu hb;exact hu.below hb))
  simp only [aO,aS,aP,aU]
  iterate 7 (refine Grow.val (v := ?_) rfl rfl (fun wg hbg hdg => ?_) ?_;rotate_left;(focus ((obtain ⟨dc,dd,db⟩:=B1.out.later hbg);(have h0:=(hbg.cell ac.out.2.2).trans ac.out.1);(have h1:=(hbg.cell ac.out.2.2).trans ac.out.2.1);clear hbg hdg;first | (go_simp;done) | (go_simp;with_reducible rfl)));simp only [Act.put,aA,aD,aE])
  refine Grow.call (f := ?_) (args := ?_) rfl (fun wg => ?_) (fun wg hbg hdg => ?_) ?_
  rotate_left 2
  focus (first | (go_simp;done) | (go_simp;refine And.intro ?_ ?_ <;> with_reducible rfl) | (go_simp;with_reducible rfl))
  focus exact Calls.mono (aCZ (HU.out.below hbg) ak.out.rise (.inl ⟨j,HJ.out,rfl⟩)) (fun e w2 ⟨he,aq⟩=>⟨_,he,rfl,aq⟩)
  simp only [Act.put,Known.val,aA,aD,aE]
  iterate 6 (refine Grow.val (v := ?_) rfl rfl (fun wg hbg hdg => ?_) ?_;rotate_left;(focus ((obtain ⟨dc,dd,db⟩:=B1.out.later hbg);(have h0:=(hbg.cell ac.out.2.2).trans ac.out.1);(have h1:=(hbg.cell ac.out.2.2).trans ac.out.2.1);clear hbg hdg;first | (go_simp;done) | (go_simp;with_reducible rfl)));simp only [Act.put,aA,aD,aE])
  intro wg hb hf dk
  clear dk
  clear ad af ae
  replace B1:=h! (B1.out.later hb)
  replace HO:=h! (HO.out.later hb)
  replace HU:=h! (HU.out.later hb)
  replace ah:=h! (ah.out.later hb)
  replace HW:=h! (HW.out.trans (hb.mono HW.out.size))
  clear hb
  obtain ⟨ad,af,ae⟩:=B1.out
  clear hf
  obtain ⟨dg,am,bw,_,_,bz,_,_,aa,ag⟩:=HO.out.cells (by omega)
  cases bw
  have hst:=aa j (.int .i64 (M.getD j 0)) (by rw [aQ,fK M j (by have:=bq.out;omega)];rfl)
  have hft:=ag j
  clear aa ag
  go_wp2
  go_roundw
  case rel=>exact ⟨i+1,M.set j t,hlti,by go_num,by rw [bX];exact bq.out,cM.out,by have h:=HO.out.put (i:=j) cz (.int .i64 t);rw [<-List.map_set] at h;exact h,HU.out.other _ (fun g hg=>bs.out g hg),ah.out.other _ (fun g hg=>dj.out g hg),HW.out.setCell (by have:=co.out;simp;omega) _,B1.out.other _ (by have:=co.out;simp;omega)⟩
  simp [intOf];omega
 obtain rfl:i=n:=by omega
 obtain ⟨n,dn⟩ : ∃ n,n=i:=⟨_,rfl⟩
 obtain rfl:=dn
 rw [bn.out] at br
 go_wp2_with fail
 refine (aA6 (HV.out.below HW.out) (jW HF.out)).mono ?_
 rintro e w5 ⟨u3,rfl,be,bb⟩
 obtain ⟨xa,xc,rfl⟩:=tX be
 have hm:=aAA (jW HF.out)
 obtain ⟨m,bl⟩ : ∃ m,m=(uxF f).length:=⟨_,rfl⟩
 rw [<-bl] at be hm ⊢
 have cx:=h! bl
 have an:Hid (Row w5 (.slice xa m xc) m 5 (jD (uxF f))):=h! (Row.of_own be (by omega))
 obtain ⟨ad,af,ae⟩:=B1.out
 clear ad af ae
 replace B1:=h! (B1.out.later bb)
 replace HO:=h! (HO.out.later bb)
 replace HU:=h! (HU.out.later bb)
 replace HW:=h! (HW.out.trans (bb.mono HW.out.size))
 clear bb
 obtain ⟨ad,af,ae⟩:=B1.out
 clear ad af ae
 clear be bl B1 ah
 have bi:=h! (vC (jW HF.out))
 have cG:Hid (∀ x ∈ uxF f,tyOf (fJ f) x.id=none -> c=6):=h! (fun x hx ht=>by
  rw [cd.out];unfold kI
  rw [if_pos]
  rw [<-bi.out,List.any_map,eQ]
  exact ⟨x,hx,by show (!(tyOf (fJ f) x.id).isSome)=true;rw [ht];rfl⟩)
 have dm:Hid ((∀ x ∈ uxF f,(tyOf (fJ f) x.id).isSome=true) -> c=if (uxF f).any (fun x=>lY (fJ f) x.pair) then 3 else 0):=h! (fun h=>by
  rw [cd.out];unfold kI
  rw [if_neg, <-bi.out,List.any_map]
  ·rfl
  rw [<-bi.out,List.any_map,eQ]
  rintro ⟨x,hx,h2⟩
  have h3:(!(tyOf (fJ f) x.id).isSome)=true:=h2
  rw [h x hx] at h3;cases h3)
 go_wp2_with fail
 go_loopw [9,10] (fun ee kk wr => ∃ (k:Nat) (ek:Int),k <= m/\kk = .int .i64 k/\ee = .int .i64 ek/\ek=(if ((uxF f).take k).any (fun x=>lY (fJ f) x.pair) then 3 else 0)/\(∀ x ∈ (uxF f).take k,(tyOf (fJ f) x.id).isSome=true)/\Own wr w.heap.size [w.heap.size] 3 1 (.slice (some ⟨gt,0,none⟩) n n) n (M.map (.int .i64))/\Ints wr (.slice ua n uc) S/\Row wr (.slice xa m xc) m 5 (jD (uxF f))/\Below w.heap.size w wr) (fun _ kk _=>m - (intOf kk).toNat)
 case atStart=>exact ⟨0,0,aJ _,rfl,rfl,by simp,by simp,HO.out,HU.out,an.out,HW.out⟩
 obtain ⟨k,ek,hk,rfl,rfl,cw,ay,hO,hU,cF,hW⟩:=hrel
 have bt:=h! cw
 have ai:=h! ay
 replace HO:=h! hO
 replace HU:=h! hU
 replace an:=h! cF
 replace HW:=h! hW
 clear cw ay hO hU cF hW
 by_cases hltk:k < m
 ·obtain ⟨x,hx⟩ : ∃ x,(uxF f)[k]? = some x:=⟨_,aC (by have:=cx.out;omega)⟩
  have cm:=h! (eT (uxF f) k x hx)
  have dp:=h! (aG hx)
  obtain ⟨xa',xc',xb,xo,dh,hxc,hxm,ch,bx⟩:=an.out.parts
  cases dh
  have bk:=an.out.len
  obtain ⟨rfl,hxb⟩:=ch (by omega)
  obtain ⟨ca,cq,_,_,_⟩:=sM _ _ _ hx
  have bd:=bx _ _ ca
  have az:=bx _ _ cq
  rw [<-Nat.add_assoc] at az
  clear ch bx ca cq bk hx
  by_cases hmem:x.id ∈ S
  ·obtain ⟨j,hj⟩:=bL.1 hmem
   obtain ⟨t,ht,cj⟩:=TypS.find ak.out br.out hj
   have HJ:=h! hj
   have HT:=h! ht
   have cz:j < n:=by have:=(aF.1 hj).1;have:=HN.out;omega
   obtain ⟨dg,am,bw,_,_,bz,_,_,aa,_⟩:=HO.out.cells (by omega)
   cases bw
   have hct:=aa j (.int .i64 t) (by rw [aQ,cj];rfl)
   clear aa hj ht cj hmem
   have aj:=h! (tW HU.out ak.out.rise (.inl ⟨j,HJ.out,rfl⟩))
   have bp:Hid (lY (fJ f) x.pair=(x.typ != 0 && t != x.typ)):=h! (by
    unfold lY
    show (match tyOf (fJ f) x.id with | none=>false | some t=>x.typ != 0 && t != x.typ)=_
    rw [HT.out])
   have di:Hid (∀ z ∈ (uxF f).take (k+1),(tyOf (fJ f) z.id).isSome=true):=h! (fun z hz=>by
    rw [cm.out,aM] at hz
    rcases hz with hz | hz
    ·exact ai.out z hz
    simp at hz;subst hz;rw [HT.out];rfl)
   have cL:Hid (((uxF f).take (k+1)).any (fun x=>lY (fJ f) x.pair)=(((uxF f).take k).any (fun x=>lY (fJ f) x.pair) || (x.typ != 0 && t != x.typ))):=h! (by rw [cm.out,List.any_append,List.any_cons,List.any_nil,Bool.or_false,bp.out])
   cases h1:(x.typ != 0) <;> cases h2:(x.typ != t)
   all_goals
    have H1:=h! h1
    have H2:Hid ((t != x.typ)=_):=h! ((bne_comm (a:=t) (b:=x.typ)).trans h2)
    go_wp2_with (go_at_call 70;refine aj.out.mono ?_;rintro e w6 ⟨rfl,rfl⟩)
    go_quiet (fail)
    go_wp2
    go_roundw
    case rel=>exact ⟨k+1,_,hltk,by go_num,rfl,by rw [cL.out,H1.out,H2.out];first | (simp only [bG,Bool.and_false,bN,Bool.or_false];exact bt.out) | simp,di.out,HO.out.later (eW (Below.refl _ _) _),HU.out.below (eW (Below.refl _ _) _),an.out.below (eW (Below.refl _ _) _),eW HW.out _⟩
    simp [intOf];omega
  have ct:=h! hmem
  clear hmem
  have aj:=h! (tW HU.out ak.out.rise (.inr ⟨ct.out,rfl⟩))
  go_wp2_with (go_at_call 70;refine aj.out.mono ?_;rintro e w6 ⟨rfl,rfl⟩)
  go_ret
  exact ⟨by rw [cG.out x dp.out (aEI ak.out ct.out)];rfl,HW.out⟩
 obtain rfl:k=m:=by omega
 rw [aH (by have:=cx.out;omega)] at bt ai
 go_wp2
 go_ret
 exact ⟨by rw [dm.out ai.out, <-bt.out];rfl,HW.out⟩
end Go.Proofs.YtagabiidbbhhmaaGreat
