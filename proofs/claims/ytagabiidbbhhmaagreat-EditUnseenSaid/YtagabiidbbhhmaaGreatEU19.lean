/- Part 19. -/
import Derived.Test.YtagabiidbbhhmaaGreatEU18
namespace Go.Proofs.YtagabiidbbhhmaaGreat
set_option maxHeartbeats 12800000
set_option linter.all false
open Go.RowKit
theorem nB {f:FuncD} (h:gW f=true):(fC f).length <= 4112:=by
 have h0:=h
 unfold gW jI at h0
 simp only [aK,decide_eq_true_eq] at h0
 have h1:=h0.1.1.1.1.1.1.1.1.1
 have h2:=h0.1.1.2
 have aa:∀ l:List BlockD,((l.flatMap iU).length:Int) <= (l.map gU).sum:=by
  intro l
  induction l with
  | nil=>simp
  | cons b l ih =>
   rw [cC,aI,cZ,List.sum_cons]
   have e:((iU b).length:Int) <= gU b:=by
    unfold iU gU
    rw [aI,bI,bI]
    have:=List.length_filter_le (fun x:InstrD=>(shp0 x.op).result != 0) b.code
    omega
   omega
 have h3:=aa f.blocks
 unfold kY at h2
 unfold fC nN
 rw [aI,kT]
 omega
theorem xS {w:World} {v:Value} {f:FuncD} (hv:fP w v f) (h0:(fC f).length=0):Calls Tryz.prog 19 #[v] w (IdsR f w):=by
 have HV:=h! hv
 have H0:=h! h0
 obtain ⟨ap,cp,ab,cb,rfl,hp,ha,hc,hB⟩:=hv.form
 clear hp ha hc hB hv h0
 generalize hnp:f.params.length=np at *
 generalize hnb:f.blocks.length=nb at *
 generalize har:f.arrays=ar at *
 generalize hce:f.cells=ce at *
 have HNP:=h! hnp
 clear hnp hnb har hce
 go_enter Tryz.func19,Tryz.ntmps19
 go_upto_region 1 with (fail)
 have ai:=(Below.refl w.heap.size w).alloc (aC _) (.cells #[.slice ap np cp,.int .i64 ar,.int .i64 ce,.slice ab nb cb] 25)
 have HW:=h! ai
 clear ai
 have B1:=h! (Box.new w #[.slice ap np cp,.int .i64 ar,.int .i64 ce,.slice ab nb cb] 25)
 generalize w.alloc (.cells #[.slice ap np cp,.int .i64 ar,.int .i64 ce,.slice ab nb cb] 25)=wv at *
 obtain ⟨ad,aa,ac⟩:=B1.out
 go_wp2_with fail
 refine (oL (HV.out.below HW.out) (by rw [H0.out];omega)).mono ?_
 rintro e w1 ⟨u,rfl,hu,ae⟩
 rw [H0.out] at hu
 obtain ⟨a,c,rfl⟩:=tV hu
 clear hu
 clear ad aa ac
 replace B1:=h! (B1.out.later ae)
 replace HW:=h! (HW.out.trans (ae.mono HW.out.size))
 clear ae
 obtain ⟨ad,aa,ac⟩:=B1.out
 go_wp2_with fail
 have HO:Hid (Own (w1.alloc (.cells #[] 3)) w.heap.size [] 3 1 (.slice (some ⟨w1.heap.size,0,none⟩) 0 0) 0 []):=h! (lV HW.out.size (by simp) 1)
 have af:=(Below.refl w1.heap.size w1).alloc (aC _) (.cells #[] 3)
 clear ad aa ac
 replace B1:=h! (B1.out.later af)
 replace HW:=h! (HW.out.trans (af.mono HW.out.size))
 clear af
 obtain ⟨ad,aa,ac⟩:=B1.out
 obtain ⟨ga,ah⟩ : ∃ ga,ga=w1.heap.size:=⟨_,rfl⟩
 rw [<-ah] at HO ⊢
 clear ah
 generalize w1.alloc _=wa at *
 go_loopw [5,6] (fun u ii wr=>u = .slice (some ⟨ga,0,none⟩) 0 0/\ii = .int .i64 0/\wr=wa) (fun _ _ _=>0)
 case atStart=>exact ⟨rfl,rfl,rfl⟩
 obtain ⟨rfl,rfl,rfl⟩:=hrel
 have ag:Hid (IdsS f.params.length (fC f) (fC f).length []):=h! (by rw [H0.out];exact IdsS.start _ _)
 have aj:Hid (New 3 w wr (.slice (some ⟨ga,0,none⟩) 0 0) []):=h! ⟨HO.out.row,by simp,by simp⟩
 go_wp2
 go_ret2
 exact ⟨HW.out,.inr ⟨ag.out.done,_,_,rfl,aj.out,ag.out⟩⟩
theorem aFW {w:World} {v:Value} {f:FuncD} (hv:fP w v f) (hf:gW f=true):Calls Tryz.prog 19 #[v] w (IdsR f w):=by
 by_cases h:(fC f).length=0
 ·exact xS hv h
 exact xU hv (by have:=nB hf;omega) (by omega)
theorem Ints.later {W W' : World} {v:Value} {xs:List Int} (h:Ints W v xs) (hb:Below W.heap.size W W'):Ints W' v xs:=h.below hb
theorem Row.later {W W' : World} {v:Value} {n size:Nat} {cs:List Value} (h:Row W v n size cs) (hb:Below W.heap.size W W'):Row W' v n size cs:=h.below hb
theorem aCV {w:World} {v:Value} {L:List Int} {x r:Int} (hv:Ints w v L) (hR:Rise L) (hr:aFX L x r) :
  Calls Tryz.prog 70 #[v,.int .i64 x] w fun e w'=>e = .returned (.int .i64 r)/\Below w.heap.size w w' :=
 (tU hv hR hr).mono fun e w' ⟨he,hw⟩=>⟨he,hw ▸ Below.refl _ _⟩
def TypS (T:List (Int × Int)) (S:List Int) (i:Nat) (M:List Int):Prop := ∀ (k:Nat) (p:Int × Int),k < i -> T[k]? = some p -> ∀ j:Nat,S[j]? = some p.1 -> M[j]? = some p.2
theorem TypS.step {np:Nat} {T:List (Int × Int)} {S:List Int} (h:IdsS np T T.length S) {i:Nat} {M:List Int} (hM:TypS T S i M) (hl:M.length=S.length) {p:Int × Int} (hp:T[i]? = some p) {j:Nat} (hj:S[j]? = some p.1):TypS T S (i+1) (M.set j p.2):=by
 intro k q hk hq j2 aa
 have ac:j < M.length:=by rw [hl];exact (aD.1 hj).1
 by_cases e:k=i
 ·subst e
  rw [hp] at hq;cases hq
  have:j2=j:=by
   by_cases h1:j2 < j
   ·have:=h.rise.lt aa hj h1;omega
   by_cases h2:j < j2
   ·have:=h.rise.lt hj aa h2;omega
   omega
  subst this
  rw [dX ac]
 have h1:=hM k q (by omega) hq j2 aa
 by_cases e2:j=j2
 ·subst e2
  rw [hj] at aa
  simp at aa
  have ab:=h.nodup
  rw [cV] at ab
  have a1:(T.map (·.1))[i]? = some p.1:=by simp [hp]
  have a2:(T.map (·.1))[k]? = some p.1:=by simp [hq,aa]
  have:=(List.getElem?_inj ((aD.1 a1).1) ab).1 (a1.trans a2.symm)
  omega
 rw [eI e2];exact h1
theorem TypS.find {np:Nat} {T:List (Int × Int)} {S M:List Int} (h:IdsS np T T.length S) (hM:TypS T S T.length M) {id:Int} {j:Nat} (hj:S[j]? = some id):∃ t,tyOf T id=some t/\M[j]? = some t:=by
 have hm:id ∈ T.map (·.1):=by have:=(h.mem id).1 (aG hj);rwa [cV] at this
 cases ht:tyOf T id with
 | none=>exact absurd hm (iI.1 ht)
 | some t =>
  obtain ⟨k,hk⟩:=bJ.1 (mY ht)
  exact ⟨t,rfl,hM k _ (aD.1 hk).1 hk j hj⟩
theorem aEH {np:Nat} {T:List (Int × Int)} {S:List Int} (h:IdsS np T T.length S) {id:Int} (hno:id ∉ S):tyOf T id=none:=by
 rw [iI]
 intro hm
 exact hno ((h.mem id).2 (by rw [cV];exact hm))
set_option maxRecDepth 100000 in
theorem vC {w:World} {v:Value} {f:FuncD} (hv:fP w v f):Calls Tryz.prog 34 #[v] w fun e w'=>e = .returned (.int .i64 (eV f))/\Below w.heap.size w w':=by
 have HV:=h! hv
 obtain ⟨ap,cp,ab,cb,rfl,hp,ha,hc,hB⟩:=hv.form
 have HC:Hid (eV f=if gW f && idsF f then kS (fC f) (nR f) else 2):=h! rfl
 obtain ⟨c,ca⟩ : ∃ c,c=eV f:=⟨_,rfl⟩
 rw [<-ca] at HC ⊢
 have dc:=hp.1.big
 obtain ⟨np,be⟩ : ∃ np,np=f.params.length:=⟨_,rfl⟩
 obtain ⟨nb,cv⟩ : ∃ nb,nb=f.blocks.length:=⟨_,rfl⟩
 obtain ⟨ar,cq⟩ : ∃ ar,ar=f.arrays:=⟨_,rfl⟩
 obtain ⟨ce,cz⟩ : ∃ ce,ce=f.cells:=⟨_,rfl⟩
 rw [<-be, <-cv, <-cq, <-cz] at HV ⊢
 rw [<-be] at dc
 have HNP:=h! be
 clear hp ha hc hB hv be cv cq cz ca
 go_enter Tryz.func34,Tryz.ntmps34
 go_upto_region 1 with (fail)
 have cr:=(Below.refl w.heap.size w).alloc (aC _) (.cells #[.slice ap np cp,.int .i64 ar,.int .i64 ce,.slice ab nb cb] 25)
 have HW:=h! cr
 clear cr
 have B1:=h! (Box.new w #[.slice ap np cp,.int .i64 ar,.int .i64 ce,.slice ab nb cb] 25)
 generalize w.alloc (.cells #[.slice ap np cp,.int .i64 ar,.int .i64 ce,.slice ab nb cb] 25)=wv at *
 obtain ⟨ac,ae,af⟩:=B1.out
 have HVC:=HV
 go_wp2_with fail
 refine (zH (HV.out.below HW.out)).mono ?_
 rintro e w1 ⟨rfl,bi⟩
 clear ac ae af
 replace B1:=h! (B1.out.later bi)
 replace HW:=h! (HW.out.trans (bi.mono HW.out.size))
 clear bi
 obtain ⟨ac,ae,af⟩:=B1.out
 cases hfo:gW f
 ·have HF:=h! hfo
  clear hfo
  go_wp2
  go_ret
  exact ⟨by rw [HC.out,HF.out];rfl,HW.out⟩
 have HF:=h! hfo
 clear hfo
 go_wp2_with fail
 refine (aFW (HV.out.below HW.out) HF.out).mono ?_
 rintro e w2 ⟨ba,bq⟩
 have dl:=HW.out.size
 clear ac ae af
 replace B1:=h! (B1.out.later ba)
 replace HW:=h! (HW.out.trans (ba.mono HW.out.size))
 clear ba
 obtain ⟨ac,ae,af⟩:=B1.out
 rcases bq with ⟨cc,rfl⟩ | ⟨aq,u,S,rfl,hu,hS⟩
 ·have da:=h! cc
  clear cc
  go_wp2
  go_ret
  exact ⟨by rw [HC.out,da.out,Bool.and_false];rfl,HW.out⟩
 have HY:=h! aq
 have al:=h! hS
 have cy:Hid (c=kS (fC f) (nR f)):=h! (by rw [HC.out,HF.out,HY.out];rfl)
 have dd:S.length <= 4112:=by have:=hS.len;have:=nB HF.out;omega
 obtain ⟨ua,uc,rfl⟩:=hu.ints.form
 have HU:=h! hu.ints
 have bh:Hid (∀ g,(Value.slice ua S.length uc).ownBlock=some g -> g < w2.heap.size):=h! (fun g hg=>(hu.fresh g hg).2)
 obtain ⟨n,hn⟩ : ∃ n,n=S.length:=⟨_,rfl⟩
 rw [<-hn] at HU bh dd ⊢
 have HN:=h! hn
 have bk:Hid (n=(fC f).length):=h! (by rw [hn,hS.len])
 clear aq hu hS hn dl HC
 go_upto_region 7 with (at_make;refine kF rfl _ _ 22 3 rfl nK n rfl rfl rfl rfl (by omega) ?_;intro w3 ay aj;have bl:=h! ay.out;have bO:=h! aj;clear ay aj)
 obtain ⟨gt,bd⟩ : ∃ gt,gt=w2.heap.size:=⟨_,rfl⟩
 rw [<-bd] at bl bh
 simp only [<-bd]
 have cx:w.heap.size < gt:=by rw [bd];exact ac
 have HO:Hid (Own w3 w.heap.size [w.heap.size] 3 1 (.slice (some ⟨gt,0,none⟩) n n) n ((List.replicate n (0:Int)).map (.int .i64))):=h! ⟨⟨by simp,.inr ⟨gt,n,_,rfl,by omega,bl.out,aC _,by unfold maxLen;omega,by simp,by simp⟩⟩,fun g hg hm=>by cases hg;simp at hm;omega⟩
 have aj:=bO.out
 replace HU:=h! (HU.out.below aj)
 clear ac ae af
 replace B1:=h! (B1.out.later aj)
 replace HW:=h! (HW.out.trans (aj.mono HW.out.size))
 clear aj
 obtain ⟨ac,ae,af⟩:=B1.out
 have cj:=h! cx
 clear bl bO bd cx
 go_wp2_with fail
 refine (oL (HV.out.below HW.out) (by have:=nB HF.out;omega)).mono ?_
 rintro e w4 ⟨u2,rfl,hu2,az⟩
 obtain ⟨va,vc,rfl⟩:=tV hu2
 rw [<-bk.out] at hu2 ⊢
 have ah:Hid (Row w4 (.slice va n vc) n 2 (kH (fC f))):=h! (Row.of_own hu2 (by omega))
 have cG:Hid (∀ g,(Value.slice va n vc).ownBlock=some g -> g ≠ gt):=h! (fun g hg=>by
  rcases hu2.2 with ⟨h,_⟩ | ⟨g',cap,cur,h,hb,_⟩
  ·cases h;cases hg
  cases h;cases hg
  have:=(HO.out.lt (g:=gt) rfl).1
  show g' ≠ gt
  omega)
 replace HU:=h! (HU.out.below az)
 have bt:Hid (∀ g,(Value.slice ua n uc).ownBlock=some g -> g ≠ gt):=h! (fun g hg=>by have:=bh.out g hg;omega)
 clear hu2 bh
 clear ac ae af
 replace B1:=h! (B1.out.later az)
 replace HO:=h! (HO.out.later az)
 replace HW:=h! (HW.out.trans (az.mono HW.out.size))
 clear az
 obtain ⟨ac,ae,af⟩:=B1.out
 go_wp2_with fail
 have bc:TypS (fC f) S 0 (List.replicate n (0:Int)):=fun k p h=>by omega
 have aw:=h! bc
 clear bc
 go_loopw [7] (fun ii wr => ∃ (i:Nat) (M:List Int),i <= n/\ii = .int .i64 i/\M.length=n/\TypS (fC f) S i M/\Own wr w.heap.size [w.heap.size] 3 1 (.slice (some ⟨gt,0,none⟩) n n) n (M.map (.int .i64))/\Ints wr (.slice ua n uc) S/\Row wr (.slice va n vc) n 2 (kH (fC f))/\Below w.heap.size w wr/\Box wr w.heap.size #[.slice ap np cp,.int .i64 ar,.int .i64 ce,.slice ab nb cb]) (fun ii _=>n - (intOf ii).toNat)
 case atStart=>exact ⟨0,_,aH _,rfl,by simp,aw.out,HO.out,HU.out,ah.out,HW.out,B1.out⟩
 obtain ⟨i,M,hi,rfl,hM,cm,hO,hU,ct,hW,ci⟩:=hrel
 clear ac ae af
 have br:=h! hM
 have bp:=h! cm
 replace HO:=h! hO
 replace HU:=h! hU
 replace ah:=h! ct
 replace HW:=h! hW
 replace B1:=h! ci
 clear hM cm hO hU ct hW ci aw
 generalize wr=wi at *
 obtain ⟨ac,ae,af⟩:=B1.out
 by_cases hlti:i < n
 ·obtain ⟨p,hp⟩ : ∃ p,(fC f)[i]? = some p:=⟨_,aB (by have:=bk.out;omega)⟩
  obtain ⟨x,t⟩:=p
  have cl:x ∈ S:=(al.out.mem x).2 (by rw [cV];exact bB.2 ⟨_,aG hp,rfl⟩)
  obtain ⟨j,hj⟩:=bJ.1 cl
  have HPX:=h! hp
  have HJ:=h! hj
  have cs:j < n:=by have:=(aD.1 hj).1;have:=HN.out;omega
  obtain ⟨va',vc',vb,vo,df,hvc,hvm,cn,bw⟩:=ah.out.parts
  cases df
  have bj:=ah.out.len
  obtain ⟨rfl,dp⟩:=cn (by omega)
  have bg:=bw (i * 2) _ (pC _ _ _ hp).1
  have an:=bw (i * 2+1) _ (pC _ _ _ hp).2
  simp only at bg an
  have ad:=h! (⟨bg,by rw [Nat.add_assoc];exact an,dp⟩ : wi.cell? ⟨vb,vo+i * 2,none⟩=some (.int .i64 x)/\wi.cell? ⟨vb,vo+i * 2+1,none⟩=some (.int .i64 t)/\vb < wi.heap.size)
  have dr:=h! (bp.out.step al.out (by rw [br.out,HN.out]) hp hj)
  clear cl hp hj cn bw bg an bj
  go_upto_region 11 with (fail)
  refine wp_region_grow 14 (fun kz=>match kz with | 7=>.const (.int .i64 j) | _=>.plain) (by kernel_rfl) (by kernel_rfl) ?_ (fun ν => ?_)
  ·(intro k;(try dsimp only);split <;> first | exact True.intro | (intro u w1 w2 hu hb;exact hu.below hb))
  simp only [aP,aU,aS,aX]
  iterate 7 (refine Grow.val (v := ?_) rfl rfl (fun wg hbg hdg => ?_) ?_;rotate_left;(focus ((obtain ⟨dg,dm,dh⟩:=B1.out.later hbg);(have h0:=(hbg.cell ad.out.2.2).trans ad.out.1);(have h1:=(hbg.cell ad.out.2.2).trans ad.out.2.1);clear hbg hdg;first | (go_simp;done) | (go_simp;with_reducible rfl)));simp only [Act.put,aA,aE,aF])
  refine Grow.call (f := ?_) (args := ?_) rfl (fun wg => ?_) (fun wg hbg hdg => ?_) ?_
  rotate_left 2
  focus (first | (go_simp;done) | (go_simp;refine And.intro ?_ ?_ <;> with_reducible rfl) | (go_simp;with_reducible rfl))
  focus exact Calls.mono (aCV (HU.out.below hbg) al.out.rise (.inl ⟨j,HJ.out,rfl⟩)) (fun e w2 ⟨he,ba⟩=>⟨_,he,rfl,ba⟩)
  simp only [Act.put,Known.val,aA,aE,aF]
  iterate 6 (refine Grow.val (v := ?_) rfl rfl (fun wg hbg hdg => ?_) ?_;rotate_left;(focus ((obtain ⟨dg,dm,dh⟩:=B1.out.later hbg);(have h0:=(hbg.cell ad.out.2.2).trans ad.out.1);(have h1:=(hbg.cell ad.out.2.2).trans ad.out.2.1);clear hbg hdg;first | (go_simp;done) | (go_simp;with_reducible rfl)));simp only [Act.put,aA,aE,aF])
  intro wg hb hf cL
  clear cL
  clear ac ae af
  replace B1:=h! (B1.out.later hb)
  replace HO:=h! (HO.out.later hb)
  replace HU:=h! (HU.out.later hb)
  replace ah:=h! (ah.out.later hb)
  replace HW:=h! (HW.out.trans (hb.mono HW.out.size))
  clear hb
  obtain ⟨ac,ae,af⟩:=B1.out
  clear hf
  obtain ⟨de,bb,bx,_,_,bs,_,_,aa,ag⟩:=HO.out.cells (by omega)
  cases bx
  have hst:=aa j (.int .i64 (M.getD j 0)) (by rw [aO,fI M j (by have:=br.out;omega)];rfl)
  have hft:=ag j
  clear aa ag
  go_wp2
  go_roundw
  case rel=>exact ⟨i+1,M.set j t,hlti,by go_num,by rw [bQ];exact br.out,dr.out,by have h:=HO.out.put (i:=j) cs (.int .i64 t);rw [<-List.map_set] at h;exact h,HU.out.other _ (fun g hg=>bt.out g hg),ah.out.other _ (fun g hg=>cG.out g hg),HW.out.setCell (by have:=cj.out;simp;omega) _,B1.out.other _ (by have:=cj.out;simp;omega)⟩
  simp [intOf];omega
 obtain rfl:i=n:=by omega
 obtain ⟨n,dj⟩ : ∃ n,n=i:=⟨_,rfl⟩
 obtain rfl:=dj
 rw [bk.out] at bp
 go_wp2_with fail
 refine (aBO (HV.out.below HW.out) (jP HF.out)).mono ?_
 rintro e w5 ⟨u3,rfl,bf,ax⟩
 obtain ⟨xa,xc,rfl⟩:=tV bf
 have hm:=zJ (jP HF.out)
 obtain ⟨m,bo⟩ : ∃ m,m=(uxF f).length:=⟨_,rfl⟩
 rw [<-bo] at bf hm ⊢
 have cw:=h! bo
 have am:Hid (Row w5 (.slice xa m xc) m 5 (iY (uxF f))):=h! (Row.of_own bf (by omega))
 obtain ⟨ac,ae,af⟩:=B1.out
 clear ac ae af
 replace B1:=h! (B1.out.later ax)
 replace HO:=h! (HO.out.later ax)
 replace HU:=h! (HU.out.later ax)
 replace HW:=h! (HW.out.trans (ax.mono HW.out.size))
 clear ax
 obtain ⟨ac,ae,af⟩:=B1.out
 clear ac ae af
 clear bf bo B1 ah
 have bv:=h! (uJ (jP HF.out))
 have di:Hid (∀ x ∈ uxF f,tyOf (fC f) x.id=none -> c=6):=h! (fun x hx ht=>by
  rw [cy.out];unfold kS
  rw [if_pos]
  rw [<-bv.out,List.any_map,eM]
  exact ⟨x,hx,by show (!(tyOf (fC f) x.id).isSome)=true;rw [ht];rfl⟩)
 have db:Hid ((∀ x ∈ uxF f,(tyOf (fC f) x.id).isSome=true) -> c=if (uxF f).any (fun x=>nV (fC f) x.pair) then 3 else 0):=h! (fun h=>by
  rw [cy.out];unfold kS
  rw [if_neg, <-bv.out,List.any_map]
  ·rfl
  rw [<-bv.out,List.any_map,eM]
  rintro ⟨x,hx,h2⟩
  have h3:(!(tyOf (fC f) x.id).isSome)=true:=h2
  rw [h x hx] at h3;cases h3)
 go_wp2_with fail
 go_loopw [9,10] (fun ee kk wr => ∃ (k:Nat) (ek:Int),k <= m/\kk = .int .i64 k/\ee = .int .i64 ek/\ek=(if ((uxF f).take k).any (fun x=>nV (fC f) x.pair) then 3 else 0)/\(∀ x ∈ (uxF f).take k,(tyOf (fC f) x.id).isSome=true)/\Own wr w.heap.size [w.heap.size] 3 1 (.slice (some ⟨gt,0,none⟩) n n) n (M.map (.int .i64))/\Ints wr (.slice ua n uc) S/\Row wr (.slice xa m xc) m 5 (iY (uxF f))/\Below w.heap.size w wr) (fun _ kk _=>m - (intOf kk).toNat)
 case atStart=>exact ⟨0,0,aH _,rfl,rfl,by simp,by simp,HO.out,HU.out,am.out,HW.out⟩
 obtain ⟨k,ek,hk,rfl,rfl,co,ao,hO,hU,cd,hW⟩:=hrel
 have bz:=h! co
 have ai:=h! ao
 replace HO:=h! hO
 replace HU:=h! hU
 replace am:=h! cd
 replace HW:=h! hW
 clear co ao hO hU cd hW
 by_cases hltk:k < m
 ·obtain ⟨x,hx⟩ : ∃ x,(uxF f)[k]? = some x:=⟨_,aB (by have:=cw.out;omega)⟩
  have cg:=h! (eS (uxF f) k x hx)
  have cM:=h! (aG hx)
  obtain ⟨xa',xc',xb,xo,dn,hxc,hxm,ch,bm⟩:=am.out.parts
  cases dn
  have bj:=am.out.len
  obtain ⟨rfl,hxb⟩:=ch (by omega)
  obtain ⟨cF,cB,_,_,_⟩:=sI _ _ _ hx
  have bg:=bm _ _ cF
  have an:=bm _ _ cB
  rw [<-Nat.add_assoc] at an
  clear ch bm cF cB bj hx
  by_cases hmem:x.id ∈ S
  ·obtain ⟨j,hj⟩:=bJ.1 hmem
   obtain ⟨t,ht,cf⟩:=TypS.find al.out bp.out hj
   have HJ:=h! hj
   have HT:=h! ht
   have cs:j < n:=by have:=(aD.1 hj).1;have:=HN.out;omega
   obtain ⟨de,bb,bx,_,_,bs,_,_,aa,_⟩:=HO.out.cells (by omega)
   cases bx
   have hct:=aa j (.int .i64 t) (by rw [aO,cf];rfl)
   clear aa hj ht cf hmem
   have ak:=h! (tU HU.out al.out.rise (.inl ⟨j,HJ.out,rfl⟩))
   have bn:Hid (nV (fC f) x.pair=(x.typ != 0 && t != x.typ)):=h! (by
    unfold nV
    show (match tyOf (fC f) x.id with | none=>false | some t=>x.typ != 0 && t != x.typ)=_
    rw [HT.out])
   have dk:Hid (∀ z ∈ (uxF f).take (k+1),(tyOf (fC f) z.id).isSome=true):=h! (fun z hz=>by
    rw [cg.out,aL] at hz
    rcases hz with hz | hz
    ·exact ai.out z hz
    simp at hz;subst hz;rw [HT.out];rfl)
   have dq:Hid (((uxF f).take (k+1)).any (fun x=>nV (fC f) x.pair)=(((uxF f).take k).any (fun x=>nV (fC f) x.pair) || (x.typ != 0 && t != x.typ))):=h! (by rw [cg.out,List.any_append,List.any_cons,List.any_nil,Bool.or_false,bn.out])
   cases h1:(x.typ != 0) <;> cases h2:(x.typ != t)
   all_goals
    have H1:=h! h1
    have H2:Hid ((t != x.typ)=_):=h! ((bne_comm (a:=t) (b:=x.typ)).trans h2)
    go_wp2_with (go_at_call 70;refine ak.out.mono ?_;rintro e w6 ⟨rfl,rfl⟩)
    go_quiet (fail)
    go_wp2
    go_roundw
    case rel=>exact ⟨k+1,_,hltk,by go_num,rfl,by rw [dq.out,H1.out,H2.out];first | (simp only [bF,Bool.and_false,bL,Bool.or_false];exact bz.out) | simp,dk.out,HO.out.later (eT (Below.refl _ _) _),HU.out.below (eT (Below.refl _ _) _),am.out.below (eT (Below.refl _ _) _),eT HW.out _⟩
    simp [intOf];omega
  have ck:=h! hmem
  clear hmem
  have ak:=h! (tU HU.out al.out.rise (.inr ⟨ck.out,rfl⟩))
  go_wp2_with (go_at_call 70;refine ak.out.mono ?_;rintro e w6 ⟨rfl,rfl⟩)
  go_ret
  exact ⟨by rw [di.out x cM.out (aEH al.out ck.out)];rfl,HW.out⟩
 obtain rfl:k=m:=by omega
 rw [aJ (by have:=cw.out;omega)] at bz ai
 go_wp2
 go_ret
 exact ⟨by rw [db.out ai.out, <-bz.out];rfl,HW.out⟩
end Go.Proofs.YtagabiidbbhhmaaGreat
