/- Part 26. -/
import Derived.Test.YtcmflfkpeodicaaGreatIRA25
namespace Go.Proofs.YtcmflfkpeodicaaGreat
set_option linter.all false
open Go.RowKit
def parN (n:Nat):List (Int × Int × Int):=(List.range n).map fun (j:Nat)=>((j:Int),(0:Int),(-1:Int))
def phiN (b:Nat) (ps:List PhiD) (i:Nat):List (Int × Int × Int):=(ps.take i).map fun p=>(p.id,(b:Int),(-1:Int))
def codN (b:Nat) (xs:List InstrD) (k:Nat):List (Int × Int × Int):=((xs.take k).zipIdx).filterMap fun xj=>if 0 <= xj.1.id then some (xj.1.id,(b:Int),(xj.2:Int)) else none
def entB (b:Nat) (x:BlockD):List (Int × Int × Int):=phiN b x.phis x.phis.length ++ codN b x.code x.code.length
def blkN (f:FuncD) (c:Nat):List (Int × Int × Int):=((f.blocks.take c).zipIdx).flatMap fun xb=>entB xb.2 xb.1
def entF (f:FuncD):List (Int × Int × Int):=parN f.params.length ++ blkN f f.blocks.length
theorem oI (n:Nat):parN (n+1)=parN n ++ [((n:Int),(0:Int),(-1:Int))]:=by simp [parN,List.range_succ]
theorem mR {b:Nat} {ps:List PhiD} {i:Nat} {p:PhiD} (h:ps[i]? = some p):phiN b ps (i+1)=phiN b ps i ++ [(p.id,(b:Int),(-1:Int))]:=by
 simp [phiN,eP ps i p h]
theorem lD {b:Nat} {xs:List InstrD} {k:Nat} {y:InstrD} (h:xs[k]? = some y):codN b xs (k+1)=codN b xs k ++ (if 0 <= y.id then [(y.id,(b:Int),(k:Int))] else []):=by
 have hk:(xs.take k).length=k:=by
  have:=(aE.1 h).1
  rw [aX];omega
 unfold codN
 rw [eP xs k y h,List.zipIdx_append,List.filterMap_append]
 congr 1
 simp only [List.zipIdx_cons,List.zipIdx_nil,List.filterMap_cons,List.filterMap_nil,hk,bH]
 split <;> rename_i h1
 ·split at h1
  ·cases h1
  rename_i h2;rw [if_neg h2]
 split at h1
 ·cases h1;rename_i h2;rw [if_pos h2]
 cases h1
theorem kM {f:FuncD} {c:Nat} {x:BlockD} (h:f.blocks[c]? = some x):blkN f (c+1)=blkN f c ++ entB c x:=by
 have hk:(f.blocks.take c).length=c:=by
  have:=(aE.1 h).1
  rw [aX];omega
 unfold blkN
 rw [eP f.blocks c x h,List.zipIdx_append,List.flatMap_append]
 simp [hk]
def defV (e:Int × Int × Int):Value:=.agg #[.int .i64 e.2.1,.int .i64 e.2.2]
def defM (l:List (Int × Int × Int)):List (Int × Value):=l.foldl (fun m e=>mput m e.1 (defV e)) []
theorem mS (l:List (Int × Int × Int)) (e:Int × Int × Int):defM (l ++ [e])=mput (defM l) e.1 (defV e):=by simp [defM]
theorem aB1 (id:Int):∀ (n:Nat) (l:List (Int × Int × Int)),l.length=n -> (l.map (·.1)).Nodup -> mget (defM l) id=(l.find? fun e=>e.1 == id).map defV:=by
 intro n
 induction n with
 | zero=>intro l hl _;rw [cJ hl];rfl
 | succ n ih =>
  intro l hl hnd
  obtain ⟨k,e,rfl⟩ : ∃ k e,l=k ++ [e]:=⟨l.dropLast,l.getLast (by intro h;rw [h] at hl;cases hl),(List.dropLast_concat_getLast _).symm⟩
  rw [aQ,dL] at hl
  rw [bF,cE] at hnd
  rw [mS,oZ,ih k (by omega) hnd.1,List.find?_append]
  by_cases h:id=e.1
  ·rw [if_pos h]
   have hno:k.find? (fun e=>e.1 == id)=none:=by
    rw [List.find?_eq_none]
    intro x hx hxe
    simp only [beq_iff_eq] at hxe
    exact hnd.2.2 x.1 (aY.2 ⟨x,hx,rfl⟩) e.1 (by simp) (by rw [hxe,h])
   rw [hno,Option.none_or]
   simp [List.find?_cons,h]
  rw [if_neg h]
  have hno:[e].find? (fun e=>e.1 == id)=none:=by simp;exact fun h2=>h h2.symm
  rw [hno,Option.or_none]
set_option maxHeartbeats 25600000 in
set_option maxRecDepth 100000 in
theorem wZ {w:World} {v:Value} {f:FuncD} (hv:gG w v f):Calls Tryz.prog 75 #[v] w fun e w' => ∃ bm,e = .returned (.map (some bm))/\IMap w' bm (defM (entF f))/\w.heap.size < bm/\Below w.heap.size w w':=by
 obtain ⟨ap,cp,ab,cb,rfl,hp,ha,hc,hB⟩:=hv.form
 have hpl:=hp.le
 obtain ⟨a2,c2,bb,bo,hbe,hbc,hbm,hbl,hba,hbx⟩:=eW hB
 cases hbe
 obtain ⟨np,hnp⟩ : ∃ np,np=f.params.length:=⟨_,rfl⟩
 obtain ⟨nb,hnb⟩ : ∃ nb,nb=f.blocks.length:=⟨_,rfl⟩
 rw [<-hnp] at hpl ⊢
 rw [<-hnb] at hbc hba hbl ⊢
 have HNB:=h! hnb
 have HNP:=h! hnp
 have HBA:=h! hba
 have HBX:=h! hbx
 clear hp ha hc hB hv hbx hnp hnb hba
 generalize f.arrays=ar at *
 generalize f.cells=ce at *
 have hmm:=@run_makeMap Tryz.prog
 go_enter Tryz.func75,Tryz.ntmps75
 go_upto_region 2 with (fail)
 clear hmm
 have HI:Hid (IMap ((w.alloc (.cells #[.slice ap np cp,.int .i64 ar,.int .i64 ce,.slice ab nb cb] 25)).alloc (.map #[] 0)) (w.heap.size+1) (defM (parN 0))):=h! (by
  have h:=IMap.new (w.alloc (.cells #[.slice ap np cp,.int .i64 ar,.int .i64 ce,.slice ab nb cb] 25))
  simpa [parN,defM] using h)
 have B1:Hid (Box ((w.alloc (.cells #[.slice ap np cp,.int .i64 ar,.int .i64 ce,.slice ab nb cb] 25)).alloc (.map #[] 0)) w.heap.size #[.slice ap np cp,.int .i64 ar,.int .i64 ce,.slice ab nb cb]):=h! ((Box.new w _ _).alloc _)
 have HW:Hid (Below w.heap.size w ((w.alloc (.cells #[.slice ap np cp,.int .i64 ar,.int .i64 ce,.slice ab nb cb] 25)).alloc (.map #[] 0))):=h! (((Below.refl _ _).alloc (aF _) _).alloc (by simp) _)
 generalize ((w.alloc (.cells #[.slice ap np cp,.int .i64 ar,.int .i64 ce,.slice ab nb cb] 25)).alloc (.map #[] 0))=w1 at *
 obtain ⟨bm,hbm2⟩ : ∃ bm,bm=w.heap.size+1:=⟨_,rfl⟩
 obtain ⟨b1,hb1⟩ : ∃ b1,b1=w.heap.size:=⟨_,rfl⟩
 rw [<-hbm2] at HI
 rw [<-hb1] at B1
 have HBM:Hid (w.heap.size < bm/\b1 ≠ bm/\w.heap.size <= bm):=h! (by omega)
 simp only [<-hbm2]
 simp only [<-hb1]
 have HWT:Hid (∀ wr wr',Below w.heap.size w wr -> Turn [bm] wr wr' -> Below w.heap.size w wr'):=h! (fun wr wr' h1 h2=>h1.trans (h2.below h1.size fun x hx=>by simp at hx;subst hx;exact HBM.out.2.2))
 clear hbm2 hb1
 obtain ⟨lB1,cB1,fB1⟩:=B1.out
 go_wp2_with fail
 go_loopw [15] (fun i wr => ∃ j:Nat,j <= np/\i = .int .i64 j/\IMap wr bm (defM (parN j))/\Below w.heap.size w wr/\Box wr b1 #[.slice ap np cp,.int .i64 ar,.int .i64 ce,.slice ab nb cb]) (fun i _=>np - (intOf i).toNat)
 case atStart=>exact ⟨0,aP _,rfl,HI.out,HW.out,B1.out⟩
 obtain ⟨j,hj,rfl,hI,hW,hB1⟩:=hrel
 clear lB1 cB1 fB1
 replace HI:=h! hI
 replace HW:=h! hW
 replace B1:=h! hB1
 clear hI hW hB1
 generalize wr=w2 at *
 by_cases hlt:j < np
 ·go_wp2_with (at_mapUpdate;refine fC (q:=.i64) (b:=bm) (mm:=defM (parN j)) (y:=j) rfl _ _ _ _ (.inl rfl) Tryz.underlying90 Tryz.underlying3 rfl HI.out rfl ?_;intro w3 hm2 hz2 ht2;have HP:=h! hm2;have HTT:=h! ht2;clear hm2 hz2 ht2)
  go_roundw
  case rel=>exact ⟨j+1,hlt,by go_num,by rw [oI,mS];exact HP.out,HWT.out _ _ HW.out HTT.out,B1.out.turn HTT.out (by simp;exact HBM.out.2.1)⟩
  simp [intOf];omega
 obtain rfl:j=np:=by omega
 obtain ⟨lB1,cB1,fB1⟩:=B1.out
 go_wp2_with fail
 clear lB1 cB1 fB1 B1
 have HI0:Hid (IMap w2 bm (defM (parN j ++ blkN f 0))):=h! (by simpa [blkN] using HI.out)
 go_loopw [25] (fun i wr => ∃ c:Nat,c <= nb/\i = .int .i64 c/\IMap wr bm (defM (parN j ++ blkN f c))/\Below w.heap.size w wr) (fun i _=>nb - (intOf i).toNat)
 case atStart=>exact ⟨0,aP _,rfl,HI0.out,HW.out⟩
 obtain ⟨c,hc,rfl,hI,hW⟩:=hrel
 clear HI0
 replace HI:=h! hI
 replace HW:=h! hW
 clear hI hW
 generalize wr=wb at *
 by_cases hltb:c < nb
 ·obtain ⟨rfl,hbw⟩:=HBA.out (by omega)
  obtain ⟨x,hjx⟩ : ∃ x,f.blocks[c]? = some x:=⟨_,aB (by have:=HNB.out;omega)⟩
  obtain ⟨api,aii,ati,cpi,cii,cti,hC⟩:=HBX.out c x hjx
  have HSN:=h! (kM hjx)
  have hB1:=hC.phis
  have hB2:=hC.code
  obtain ⟨pl,hpl2⟩ : ∃ pl,pl=x.phis.length:=⟨_,rfl⟩
  obtain ⟨cl,hcl⟩ : ∃ cl,cl=x.code.length:=⟨_,rfl⟩
  obtain ⟨ac,capc,bcd,ocd,hce1,hcc,hcm,hcl16,hca,hcx⟩:=gC hB2
  obtain ⟨apx,capp,bph,oph,hpe1,hppc,hppm,hpl16,hpa2,hpx2⟩:=fV hB1
  obtain ⟨k0,k1,k2,k3,k4,k5,q1,q2,q3,q4,q5,q6⟩:=hC.below HW.out hbw
  rw [<-hpl2] at hpe1 hppc hpl16 hpa2 k0
  rw [<-hcl] at hce1 hcc hcl16 hca k1
  cases hpe1
  cases hce1
  have HPL:=h! hpl2
  have HCL:=h! hcl
  have HPA2:=h! hpa2
  have HPX2:=h! hpx2
  have HCA2:=h! hca
  have HCX2:=h! hcx
  have HBW:Hid (bm < wb.heap.size):=h! HI.out.lt
  clear hpl2 hcl hpa2 hpx2 hca hcx q1 q2 q3 q4 q5 q6 hC hB1 hB2 hjx
  obtain ⟨E0,hE0⟩ : ∃ E0,E0=parN j ++ blkN f c:=⟨_,rfl⟩
  rw [<-hE0] at HI
  have HE0:=h! hE0
  clear hE0
  go_upto_region 10 with (fail)
  have hA_:=(Below.refl wb.heap.size wb).alloc (aF _) (.cells #[.slice api pl cpi,.slice aii cl cii,.int .i64 x.term.op,.int .i64 x.term.val,.slice ati x.term.to.length cti,.int .i64 x.term.n] 50)
  replace HI:=h! (HI.out.later hA_)
  replace HW:=h! (HW.out.trans (hA_.mono HW.out.size))
  clear hA_
  have B5:=h! (Box.new wb #[.slice api pl cpi,.slice aii cl cii,.int .i64 x.term.op,.int .i64 x.term.val,.slice ati x.term.to.length cti,.int .i64 x.term.n] 50)
  generalize wb.alloc (.cells #[.slice api pl cpi,.slice aii cl cii,.int .i64 x.term.op,.int .i64 x.term.val,.slice ati x.term.to.length cti,.int .i64 x.term.n] 50)=w5 at *
  obtain ⟨lB5,cB5,fB5⟩:=B5.out
  clear k0 k1 k2 k3 k4 k5
  go_wp2_with fail
  go_loopw [33] (fun i wr => ∃ j1:Nat,j1 <= pl/\i = .int .i64 j1/\IMap wr bm (defM (E0 ++ phiN c x.phis j1))/\Below w.heap.size w wr/\Box wr wb.heap.size #[.slice api pl cpi,.slice aii cl cii,.int .i64 x.term.op,.int .i64 x.term.val,.slice ati x.term.to.length cti,.int .i64 x.term.n]) (fun i _=>pl - (intOf i).toNat)
  case atStart=>exact ⟨0,Nat.zero_le _,rfl,by simpa [phiN] using HI.out,HW.out,B5.out⟩
  obtain ⟨j1,hj1,rfl,hI,hW,hB5⟩:=hrel
  clear lB5 cB5 fB5
  replace HI:=h! hI
  replace HW:=h! hW
  replace B5:=h! hB5
  clear hI hW hB5
  generalize wr=w7 at *
  obtain ⟨lB5,cB5,fB5⟩:=B5.out
  by_cases hlt1:j1 < pl
  ·obtain ⟨rfl,hbp⟩:=HPA2.out (by omega)
   obtain ⟨p,hkp⟩ : ∃ p,x.phis[j1]? = some p:=⟨_,aB (by have:=HPL.out;omega)⟩
   obtain ⟨af,av,cf,cv,hP⟩:=HPX2.out j1 p hkp
   obtain ⟨m0,m1,m2,m3,r1,r2,r3,r4⟩:=hP.below HW.out hbp
   have HSP:Hid (defM (E0 ++ phiN c x.phis (j1+1))=mput (defM (E0 ++ phiN c x.phis j1)) p.id (.agg #[.int .i64 c,.int .i64 (-1)])):=h! (by rw [mR hkp, <-List.append_assoc,mS];rfl)
   clear r1 r2 r3 r4 hP hkp
   go_upto_region 13 with (fail)
   have nB7B5:w7.heap.size ≠ wb.heap.size:=fun e=>by have:=lB5;omega
   have nB5B7:wb.heap.size ≠ w7.heap.size:=fun e=>nB7B5 e.symm
   clear lB5 cB5 fB5
   have hA_:=(Below.refl w7.heap.size w7).alloc (aF _) (.cells #[.int .i64 p.id,.int .i64 p.typ,.slice af p.src.length cf,.slice av p.vals.length cv] 113)
   replace B5:=h! (B5.out.later hA_)
   replace HI:=h! (HI.out.later hA_)
   replace HW:=h! (HW.out.trans (hA_.mono HW.out.size))
   clear hA_
   have B7:=h! (Box.new w7 #[.int .i64 p.id,.int .i64 p.typ,.slice af p.src.length cf,.slice av p.vals.length cv] 113)
   generalize w7.alloc (.cells #[.int .i64 p.id,.int .i64 p.typ,.slice af p.src.length cf,.slice av p.vals.length cv] 113)=w8 at *
   obtain ⟨lB5,cB5,fB5⟩:=B5.out
   obtain ⟨lB7,cB7,fB7⟩:=B7.out
   clear m0 m1 m2 m3
   go_wp2_with (at_mapUpdate;refine fC (q:=.i64) (b:=bm) (mm:=defM (E0 ++ phiN c x.phis j1)) (y:=p.id) rfl _ _ _ _ (.inl rfl) Tryz.underlying90 Tryz.underlying3 rfl HI.out rfl ?_;intro w9 hm2 hz2 ht2;have HP:=h! hm2;have HTT:=h! ht2;clear hm2 hz2 ht2)
   go_roundw
   case rel=>exact ⟨j1+1,hlt1,by go_num,by rw [HSP.out];exact HP.out,HWT.out _ _ HW.out HTT.out,B5.out.turn HTT.out (by simp;have:=HBW.out;omega)⟩
   simp [intOf];omega
  obtain rfl:j1=pl:=by omega
  obtain ⟨E1,hE1⟩ : ∃ E1,E1=E0 ++ phiN c x.phis j1:=⟨_,rfl⟩
  rw [<-hE1] at HI
  have HE1:=h! hE1
  clear hE1
  go_wp2_with fail
  go_loopw [46] (fun i wr => ∃ j2:Nat,j2 <= cl/\i = .int .i64 j2/\IMap wr bm (defM (E1 ++ codN c x.code j2))/\Below w.heap.size w wr) (fun i _=>cl - (intOf i).toNat)
  case atStart=>exact ⟨0,Nat.zero_le _,rfl,by simpa [codN] using HI.out,HW.out⟩
  obtain ⟨j2,hj2,rfl,hI,hW⟩:=hrel
  clear lB5 cB5 fB5 B5
  replace HI:=h! hI
  replace HW:=h! hW
  clear hI hW
  generalize wr=w11 at *
  by_cases hlt3:j2 < cl
  ·obtain ⟨rfl,hbp⟩:=HCA2.out (by omega)
   obtain ⟨y,hky⟩ : ∃ y,x.code[j2]? = some y:=⟨_,aB (by have:=HCL.out;omega)⟩
   obtain ⟨aa,ca,hP⟩:=HCX2.out j2 y hky
   obtain ⟨m0,m1,m2,m3,r1,r2,r3,r4⟩:=hP.below HW.out hbp
   have HSC:=h! (lD (b:=c) hky)
   clear r1 r2 r3 r4 hP hky
   go_upto_region 18 with (fail)
   have hA_:=(Below.refl w11.heap.size w11).alloc (aF _) (.cells #[.int .i64 y.op,.int .i64 y.id,.slice aa y.args.length ca,.int .i64 y.n] 69)
   replace HI:=h! (HI.out.later hA_)
   replace HW:=h! (HW.out.trans (hA_.mono HW.out.size))
   clear hA_
   have B8:=h! (Box.new w11 #[.int .i64 y.op,.int .i64 y.id,.slice aa y.args.length ca,.int .i64 y.n] 69)
   generalize w11.alloc (.cells #[.int .i64 y.op,.int .i64 y.id,.slice aa y.args.length ca,.int .i64 y.n] 69)=w12 at *
   obtain ⟨lB8,cB8,fB8⟩:=B8.out
   clear m0 m1 m2 m3
   by_cases hid:0 <= y.id
   ·have HSD:Hid (defM (E1 ++ codN c x.code (j2+1))=mput (defM (E1 ++ codN c x.code j2)) y.id (.agg #[.int .i64 c,.int .i64 j2])):=h! (by rw [HSC.out,if_pos hid, <-List.append_assoc,mS];rfl)
    go_wp2_with (at_mapUpdate;refine fC (q:=.i64) (b:=bm) (mm:=defM (E1 ++ codN c x.code j2)) (y:=y.id) rfl _ _ _ _ (.inl rfl) Tryz.underlying90 Tryz.underlying3 rfl HI.out rfl ?_;intro w13 hm2 hz2 ht2;have HP:=h! hm2;have HTT:=h! ht2;clear hm2 hz2 ht2)
    go_roundw
    case rel=>exact ⟨j2+1,hlt3,by go_num,by rw [HSD.out];exact HP.out,HWT.out _ _ HW.out HTT.out⟩
    simp [intOf];omega
   have HSD:Hid (defM (E1 ++ codN c x.code (j2+1))=defM (E1 ++ codN c x.code j2)):=h! (by rw [HSC.out,if_neg hid,cK])
   go_wp2
   go_roundw
   case rel=>exact ⟨j2+1,hlt3,by go_num,by rw [HSD.out];exact HI.out,HW.out⟩
   simp [intOf];omega
  obtain rfl:j2=cl:=by omega
  have HSD:Hid (defM (parN j ++ blkN f (c+1))=defM (E1 ++ codN c x.code j2)):=h! (by rw [HSN.out,HE1.out,HE0.out,HPL.out,HCL.out];simp [entB])
  go_wp2
  go_roundw
  case rel=>exact ⟨c+1,hltb,by go_num,by rw [HSD.out];exact HI.out,HW.out⟩
  simp [intOf];omega
 obtain rfl:c=nb:=by omega
 have HIE:Hid (IMap wb bm (defM (entF f))):=h! (by have h9:=HI.out;rw [HNP.out,HNB.out] at h9;exact h9)
 go_wp2
 go_ret
 exact ⟨bm,rfl,HIE.out,HBM.out.1,HW.out⟩
theorem zD (b:Nat) (xs:List InstrD) (h:∀ y ∈ xs,(0 <= y.id ↔ (shp0 y.op).result ≠ 0)):∀ k,k <= xs.length -> (codN b xs k).map (·.1)=((xs.take k).filter fun y=>(shp0 y.op).result != 0).map (·.id):=by
 intro k
 induction k with
 | zero=>intro _;simp [codN]
 | succ k ih =>
  intro hk
  obtain ⟨y,hy⟩ : ∃ y,xs[k]? = some y:=⟨_,aB (by omega)⟩
  rw [lD hy,eP xs k y hy,bF,List.filter_append,bF,ih (by omega)]
  congr 1
  have h1:=h y (aG hy)
  by_cases h2:0 <= y.id
  ·have h3:=h1.1 h2
   simp [h2,h3]
  have h3:(shp0 y.op).result=0:=Classical.byContradiction fun h4=>h2 (h1.2 h4)
  simp [h2,h3]
theorem zE (b:Nat) (x:BlockD) (h:∀ y ∈ x.code,(0 <= y.id ↔ (shp0 y.op).result ≠ 0)):(entB b x).map (·.1)=(iS x).map (·.1):=by
 unfold entB iS
 rw [bF,bF,zD b x.code h _ (aF _)]
 simp [phiN,dP,Function.comp_def]
theorem zF (f:FuncD) (h:∀ x ∈ f.blocks, ∀ y ∈ x.code,(0 <= y.id ↔ (shp0 y.op).result ≠ 0)):∀ c,c <= f.blocks.length -> (blkN f c).map (·.1)=((f.blocks.take c).flatMap iS).map (·.1):=by
 intro c
 induction c with
 | zero=>intro _;simp [blkN]
 | succ c ih =>
  intro hc
  obtain ⟨x,hx⟩ : ∃ x,f.blocks[c]? = some x:=⟨_,aB (by omega)⟩
  rw [kM hx,eP f.blocks c x hx,bF,List.flatMap_append,bF,ih (by omega),zE c x (h x (aG hx))]
  simp
theorem uS {f:FuncD} (h:eL f=0):∀ x ∈ f.blocks, ∀ y ∈ x.code,(0 <= y.id ↔ (shp0 y.op).result ≠ 0):=by
 intro x hx y hy
 obtain ⟨h1,h2⟩:=eS h
 obtain ⟨b,hb⟩:=bJ.1 hx
 constructor
 ·intro h0 hr
  unfold gM at h1
  simp only [aN,aZ] at h1
  have h3:=h1.2 (x,b) (by rw [bS];exact hb)
  unfold fN at h3
  simp only [aN,aZ] at h3
  have h4:=h3.1.2 y hy
  unfold fQ at h4
  simp [hr] at h4
  omega
 intro hr
 unfold idsF idsB at h2
 rw [aN,aZ] at h2
 have h3:=h2.2 (y.id,(shp0 y.op).result) (by
  unfold oU
  rw [bK]
  refine ⟨x,hx, ?_⟩
  unfold iS
  rw [aO]
  right
  rw [aY]
  exact ⟨y,List.mem_filter.2 ⟨hy,by simpa using hr⟩,rfl⟩)
 simp at h3
 omega
theorem qN {f:FuncD} (h:eL f=0):(entF f).map (·.1)=(eR f).map (·.1):=by
 unfold entF eR
 rw [bF,bF,kO,zF f (uS h) _ (aF _),cM]
 congr 1
 simp [parN,dP,Function.comp_def]
theorem zG {f:FuncD} (h:eL f=0):((entF f).map (·.1)).Nodup:=by
 rw [qN h]
 have h2:=(eS h).2
 unfold idsF idsB at h2
 rw [aN,decide_eq_true_eq] at h2
 exact h2.1
theorem zH {f:FuncD} (h:eL f=0) (id:Int):mget (defM (entF f)) id=((entF f).find? fun e=>e.1 == id).map defV:=aB1 id _ _ rfl (zG h)
theorem tF (w:World):(zeroValue 164).run Tryz.prog w = .ok (.agg #[.int .i64 0,.int .i64 0]) w:=by kernel_rfl
section
variable {P:Program} {w:World}
theorem IMap.lookup0 {t k e:TypeId} {q:IntKind} {b:Nat} {m:List (Int × Value)} (h:IMap w b m) (ht:P.underlying t=some (.map k e)) (hk:P.underlying k=some (.int q)) {z:Value} (hz:(zeroValue e).run P w = .ok z w) (x:Int) :
  (Instr.lookup t (.map (some b)) (.int .i64 x) false).run P w = .ok ((mget m x).getD z) w:=by
 obtain ⟨es,c,hh,hm,_⟩:=h.ex
 have hf:=mJ (P:=P) (w:=w) hk x hm
 unfold Instr.lookup
 have hg:(Sem.getObj b Sem.pure:Sem Obj).run P w = .ok (.map es c) w:=by simp [Sem.run,hh]
 rw [oB]
 simp only [Sem.run_bind,run_underlying ht,Result.andThen,getObj,hg,Sem.run_pure,lI hk,hf]
 cases hi:(m.findIdx? (fun p=>p.1 == x)) with
 | none=>simp [hz,Result.andThen,Sem.run_pure]
 | some j =>
  simp only [dK]
  cases hj:m[j]? with
  | none=>simp [hz,Result.andThen,Sem.run_pure]
  | some p=>simp [Result.andThen,Sem.run_pure]
variable {ops:Array Oper} {rest:List Oper} {o:Oper} {a:Act} {Q:Exit -> Act -> World -> Prop}
theorem eN (hg:o.guard=none) (m x:Operand) (t:TypeId) (hop:o.op=Op.lookup t m x false) {k e:TypeId} {q:IntKind} (ht:P.underlying t=some (.map k e)) (hk:P.underlying k=some (.int q)) {z:Value} (hz:(zeroValue e).run P w = .ok z w)
  {b:Nat} {mm:List (Int × Value)} (hm:a.eval m = .map (some b)) (h:IMap w b mm) {y:Int} (hx:a.eval x = .int .i64 y) (hK:wpList P ops Q rest (a.put o.dst ((mget mm y).getD z)) w):wpList P ops Q (o :: rest) a w:=by
 refine wpList_plain hg fun K' hK' => ?_
 unfold Oper.wp
 simp [execOp,hop,hm,hx,h.lookup0 ht hk hz y,Result.andThen]
 exact hK' _ _ hK
end
def fD (v:Value) (w:World) (e:Ending) (w' : World):Prop:=e = .returned v/\Below w.heap.size w w'
theorem zI {w:World} (b:Bool):Calls Tryz.prog 38 #[.bool b] w (fD (.int .i64 (iT b)) w):=by
 cases b
 ·skip
  go_enter Tryz.func38,Tryz.ntmps38
  go_wp2
  go_ret
  exact ⟨rfl,Below.refl _ _⟩
 skip
 go_enter Tryz.func38,Tryz.ntmps38
 go_wp2
 go_ret
 exact ⟨rfl,Below.refl _ _⟩
theorem aGO (b:Int):bits .and .i64 b 63=b % 64:=by
 have h1:(BitVec.ofInt 64 b &&& BitVec.ofInt 64 63).toNat=(b % 64).toNat:=by
  rw [BitVec.toNat_and]
  have h2:(BitVec.ofInt 64 63).toNat=2 ^ 6 - 1:=by decide
  rw [h2,Nat.and_two_pow_sub_one_eq_mod,BitVec.toNat_ofInt]
  omega
 have key:bits .and .i64 b 63=IntKind.i64.wrap ((BitVec.ofInt 64 b &&& BitVec.ofInt 64 63).toNat:Int):=rfl
 rw [key,h1]
 have h3:0 <= b % 64/\b % 64 < 64:=by omega
 rw [fR,Int.toNat_of_nonneg h3.1]
 unfold wrap64
 omega
theorem zJ {w:World} (a b:Int):Calls Tryz.prog 222 #[.int .i64 a,.int .i64 b] w (fD (.int .i64 (fH 3 a b)) w):=by
 have hc:fH 3 a b=wrap64 (a+b):=fR _
 rw [hc]
 clear hc
 go_enter Tryz.func222,Tryz.ntmps222
 go_wp2
 go_ret
 exact ⟨rfl,Below.refl _ _⟩
theorem zK {w:World} (a b:Int):Calls Tryz.prog 223 #[.int .i64 a,.int .i64 b] w (fD (.int .i64 (fH 4 a b)) w):=by
 have hc:fH 4 a b=wrap64 (a - b):=fR _
 rw [hc]
 clear hc
 go_enter Tryz.func223,Tryz.ntmps223
 go_wp2
 go_ret
 exact ⟨rfl,Below.refl _ _⟩
theorem zL {w:World} (a b:Int):Calls Tryz.prog 224 #[.int .i64 a,.int .i64 b] w (fD (.int .i64 (fH 5 a b)) w):=by
 have hc:fH 5 a b=wrap64 (a * b):=fR _
 rw [hc]
 clear hc
 go_enter Tryz.func224,Tryz.ntmps224
 go_wp2
 go_ret
 exact ⟨rfl,Below.refl _ _⟩
theorem zM {w:World} (a b:Int):Calls Tryz.prog 225 #[.int .i64 a,.int .i64 b] w (fD (.int .i64 (fH 6 a b)) w):=by
 have hc:fH 6 a b=bits .and .i64 a b:=rfl
 rw [hc]
 clear hc
 go_enter Tryz.func225,Tryz.ntmps225
 go_wp2
 go_ret
 exact ⟨rfl,Below.refl _ _⟩
theorem aC7 {w:World} (a b:Int):Calls Tryz.prog 226 #[.int .i64 a,.int .i64 b] w (fD (.int .i64 (fH 7 a b)) w):=by
 have hc:fH 7 a b=bits .or .i64 a b:=rfl
 rw [hc]
 clear hc
 go_enter Tryz.func226,Tryz.ntmps226
 go_wp2
 go_ret
 exact ⟨rfl,Below.refl _ _⟩
theorem zN {w:World} (a b:Int):Calls Tryz.prog 227 #[.int .i64 a,.int .i64 b] w (fD (.int .i64 (fH 8 a b)) w):=by
 have hc:fH 8 a b=bits .xor .i64 a b:=rfl
 rw [hc]
 clear hc
 go_enter Tryz.func227,Tryz.ntmps227
 go_wp2
 go_ret
 exact ⟨rfl,Below.refl _ _⟩
theorem zO {w:World} (a b:Int):Calls Tryz.prog 228 #[.int .i64 a,.int .i64 b] w (fD (.int .i64 (fH 9 a b)) w):=by
 have hc:fH 9 a b=wrap64 (a * 2 ^ (b % 64).toNat):=by rw [<-fR];rfl
 rw [hc]
 have h6:=aGO b
 have h0:0 <= b % 64:=by omega
 clear hc
 go_enter Tryz.func228,Tryz.ntmps228
 go_wp2
 go_ret
 exact ⟨rfl,Below.refl _ _⟩
theorem zP {w:World} (a b:Int):Calls Tryz.prog 229 #[.int .i64 a,.int .i64 b] w (fD (.int .i64 (fH 10 a b)) w):=by
 have hc:fH 10 a b=wrap64 (IntKind.u64.wrap a / 2 ^ (b % 64).toNat):=by rw [<-fR];rfl
 rw [hc]
 have h6:=aGO b
 have h0:0 <= b % 64:=by omega
 clear hc
 go_enter Tryz.func229,Tryz.ntmps229
 go_wp2
 go_ret
 exact ⟨rfl,Below.refl _ _⟩
theorem aEG {w:World} (a b:Int) (hb:¬ b=0):Calls Tryz.prog 230 #[.int .i64 a,.int .i64 b] w (fD (.int .i64 (fH 11 a b)) w):=by
 have hc:fH 11 a b=wrap64 (a.tdiv b):=by rw [<-fR];rfl
 rw [hc]
 clear hc
 go_enter Tryz.func230,Tryz.ntmps230
 go_wp2
 go_ret
 exact ⟨rfl,Below.refl _ _⟩
theorem aEH {w:World} (a b:Int) (hb:¬ b=0):Calls Tryz.prog 231 #[.int .i64 a,.int .i64 b] w (fD (.int .i64 (fH 12 a b)) w):=by
 have hc:fH 12 a b=a.tmod b:=rfl
 rw [hc]
 clear hc
 go_enter Tryz.func231,Tryz.ntmps231
 go_wp2
 go_ret
 exact ⟨rfl,Below.refl _ _⟩
theorem aC8 {w:World} (a b:Int):Calls Tryz.prog 232 #[.int .i64 a,.int .i64 b] w (fD (.int .i64 (fH 13 a b)) w):=by
 have hc:fH 13 a b=iT (a == b):=rfl
 rw [hc]
 clear hc
 go_enter Tryz.func232,Tryz.ntmps232
 go_wp2_with fail
 refine (zI _).mono ?_
 rintro e w2 ⟨rfl,hb⟩
 go_wp2
 go_ret
 exact ⟨rfl,hb⟩
theorem aC9 {w:World} (a b:Int):Calls Tryz.prog 233 #[.int .i64 a,.int .i64 b] w (fD (.int .i64 (fH 14 a b)) w):=by
 have hc:fH 14 a b=iT (decide (a < b)):=rfl
 rw [hc]
 clear hc
 go_enter Tryz.func233,Tryz.ntmps233
 go_wp2_with fail
 refine (zI _).mono ?_
 rintro e w2 ⟨rfl,hb⟩
 go_wp2
 go_ret
 exact ⟨rfl,hb⟩
theorem rN {w:World} (a b:Int):Calls Tryz.prog 234 #[.int .i64 a,.int .i64 b] w (fD (.int .i64 (fH 15 a b)) w):=by
 have hc:fH 15 a b=iT (decide (IntKind.u64.wrap a < IntKind.u64.wrap b)):=rfl
 rw [hc]
 clear hc
 go_enter Tryz.func234,Tryz.ntmps234
 go_wp2_with fail
 refine (zI _).mono ?_
 rintro e w2 ⟨rfl,hb⟩
 go_wp2
 go_ret
 exact ⟨rfl,hb⟩
def eM (W:World) (S:Foot) (v:Value) (xs:List Int):Prop:=ORow W S 3 1 v xs.length (xs.map (.int .i64)) /\ ∀ x ∈ xs,In64 x
theorem eM.ints {W:World} {S:Foot} {v:Value} {xs:List Int} (h:eM W S v xs):Ints W v xs:=⟨h.1.row,h.2⟩
theorem eM.keep {W W' : World} {S:Foot} {v:Value} {xs:List Int} (h:eM W S v xs) (hk:∀ k,S k -> W'.heap[k]? = W.heap[k]?):eM W' S v xs:=⟨h.1.keep hk,h.2⟩
theorem eM.wide {W:World} {S S' : Foot} {v:Value} {xs:List Int} (h:eM W S v xs) (hs:∀ k,S k -> S' k) (hl:∀ k,S' k -> k < W.heap.size):eM W S' v xs:=⟨h.1.wide hs hl,h.2⟩
theorem eM.lt {W:World} {S:Foot} {v:Value} {xs:List Int} (h:eM W S v xs):∀ k,S k -> k < W.heap.size:=h.1.lt
theorem eM.off {W W' : World} {S D:Foot} {v:Value} {xs:List Int} (h:eM W S v xs) (ho:Off D W W') (hn:S.off D):eM W' S v xs:=⟨h.1.off ho hn,h.2⟩
theorem eM.set {W:World} {S:Foot} {v:Value} {xs:List Int} (h:eM W S v xs) {g cap:Nat} (hv:v = .slice (some ⟨g,0,none⟩) xs.length cap) {i:Nat} (hi:i < xs.length) {y:Int} (hy:In64 y):eM (W.setCell ⟨g,i,none⟩ (.int .i64 y)) S v (xs.set i y):=by
 refine ⟨by rw [bY,List.map_set];exact h.1.set hv (by omega) i _,fun z hz => ?_⟩
 rcases List.mem_or_eq_of_mem_set hz with h1 | h1
 ·exact h.2 z h1
 rw [h1];exact hy
theorem eM.nil {W:World} (a:Option Addr):eM W Foot.none (.slice a 0 0) []:=⟨ORow.nil a,by simp⟩
end Go.Proofs.YtcmflfkpeodicaaGreat
