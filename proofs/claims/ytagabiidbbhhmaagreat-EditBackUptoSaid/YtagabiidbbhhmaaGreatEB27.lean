/- Part 27. -/
import Derived.Test.YtagabiidbbhhmaaGreatEB26
namespace Go.Proofs.YtagabiidbbhhmaaGreat
set_option maxHeartbeats 25600000
set_option linter.all false
open Go.RowKit
def parN (n:Nat):List (Int × Int × Int):=(List.range n).map fun (j:Nat)=>((j:Int),(0:Int),(-1:Int))
def phiN (b:Nat) (ps:List PhiD) (i:Nat):List (Int × Int × Int):=(ps.take i).map fun p=>(p.id,(b:Int),(-1:Int))
def codN (b:Nat) (xs:List InstrD) (k:Nat):List (Int × Int × Int):=((xs.take k).zipIdx).filterMap fun xj=>if 0 <= xj.1.id then some (xj.1.id,(b:Int),(xj.2:Int)) else none
def entB (b:Nat) (x:BlockD):List (Int × Int × Int):=phiN b x.phis x.phis.length ++ codN b x.code x.code.length
def blkN (f:FuncD) (c:Nat):List (Int × Int × Int):=((f.blocks.take c).zipIdx).flatMap fun xb=>entB xb.2 xb.1
def entF (f:FuncD):List (Int × Int × Int):=parN f.params.length ++ blkN f f.blocks.length
theorem oS (n:Nat):parN (n+1)=parN n ++ [((n:Int),(0:Int),(-1:Int))]:=by simp [parN,List.range_succ]
theorem mS {b:Nat} {ps:List PhiD} {i:Nat} {p:PhiD} (h:ps[i]? = some p):phiN b ps (i+1)=phiN b ps i ++ [(p.id,(b:Int),(-1:Int))]:=by
 simp [phiN,eP ps i p h]
theorem lC {b:Nat} {xs:List InstrD} {k:Nat} {y:InstrD} (h:xs[k]? = some y):codN b xs (k+1)=codN b xs k ++ (if 0 <= y.id then [(y.id,(b:Int),(k:Int))] else []):=by
 have hk:(xs.take k).length=k:=by
  have:=(aD.1 h).1
  rw [aR];omega
 unfold codN
 rw [eP xs k y h,List.zipIdx_append,List.filterMap_append]
 congr 1
 simp only [List.zipIdx_cons,List.zipIdx_nil,List.filterMap_cons,List.filterMap_nil,hk,bG]
 split <;> rename_i h1
 ·split at h1
  ·cases h1
  rename_i h2;rw [if_neg h2]
 split at h1
 ·cases h1;rename_i h2;rw [if_pos h2]
 cases h1
theorem kC {f:FuncD} {c:Nat} {x:BlockD} (h:f.blocks[c]? = some x):blkN f (c+1)=blkN f c ++ entB c x:=by
 have hk:(f.blocks.take c).length=c:=by
  have:=(aD.1 h).1
  rw [aR];omega
 unfold blkN
 rw [eP f.blocks c x h,List.zipIdx_append,List.flatMap_append]
 simp [hk]
def defV (e:Int × Int × Int):Value:=.agg #[.int .i64 e.2.1,.int .i64 e.2.2]
def defM (l:List (Int × Int × Int)):List (Int × Value):=l.foldl (fun m e=>mput m e.1 (defV e)) []
theorem mT (l:List (Int × Int × Int)) (e:Int × Int × Int):defM (l ++ [e])=mput (defM l) e.1 (defV e):=by simp [defM]
theorem aCH (id:Int):∀ (n:Nat) (l:List (Int × Int × Int)),l.length=n -> (l.map (·.1)).Nodup -> mget (defM l) id=(l.find? fun e=>e.1 == id).map defV:=by
 intro n
 induction n with
 | zero=>intro l hl _;rw [bY hl];rfl
 | succ n ih =>
  intro l hl hnd
  obtain ⟨k,e,rfl⟩ : ∃ k e,l=k ++ [e]:=⟨l.dropLast,l.getLast (by intro h;rw [h] at hl;cases hl),(List.dropLast_concat_getLast _).symm⟩
  rw [aI,eH] at hl
  rw [bC,bZ] at hnd
  rw [mT,rV,ih k (by omega) hnd.1,List.find?_append]
  by_cases h:id=e.1
  ·rw [if_pos h]
   have hno:k.find? (fun e=>e.1 == id)=none:=by
    rw [List.find?_eq_none]
    intro x hx hxe
    simp only [beq_iff_eq] at hxe
    exact hnd.2.2 x.1 (aX.2 ⟨x,hx,rfl⟩) e.1 (by simp) (by rw [hxe,h])
   rw [hno,Option.none_or]
   simp [List.find?_cons,h]
  rw [if_neg h]
  have hno:[e].find? (fun e=>e.1 == id)=none:=by simp;exact fun h2=>h h2.symm
  rw [hno,Option.or_none]
set_option maxRecDepth 100000 in
theorem xD {w:World} {v:Value} {f:FuncD} (hv:fJ w v f):Calls Tryz.prog 86 #[v] w fun e w' => ∃ bm,e = .returned (.map (some bm))/\IMap w' bm (defM (entF f))/\w.heap.size < bm/\Below w.heap.size w w':=by
 obtain ⟨ap,cp,ab,cb,rfl,hp,ha,hc,hB⟩:=hv.form
 have hpl:=hp.le
 obtain ⟨a2,c2,bb,bo,hbe,hbc,hbm,hbl,hba,hbx⟩:=eU hB
 cases hbe
 obtain ⟨np,hnp⟩ : ∃ np,np=f.params.length:=⟨_,rfl⟩
 obtain ⟨nb,hnb⟩ : ∃ nb,nb=f.blocks.length:=⟨_,rfl⟩
 rw [<-hnp] at hpl ⊢
 rw [<-hnb] at hbc hba hbl ⊢
 have HNB:=h! hnb
 have HNP:=h! hnp
 have HBA:=h! hba
 have HBX:=h! hbx
 clear hp ha hc hB hv hbx hnp hnb hba
 generalize f.arrays=ar at *
 generalize f.cells=ce at *
 have hmm:=@run_makeMap Tryz.prog
 go_enter Tryz.func86,Tryz.ntmps86
 go_upto_region 2 with (fail)
 clear hmm
 have HI:Hid (IMap ((w.alloc (.cells #[.slice ap np cp,.int .i64 ar,.int .i64 ce,.slice ab nb cb] 25)).alloc (.map #[] 0)) (w.heap.size+1) (defM (parN 0))):=h! (by
  have h:=IMap.new (w.alloc (.cells #[.slice ap np cp,.int .i64 ar,.int .i64 ce,.slice ab nb cb] 25))
  simpa [parN,defM] using h)
 have B1:Hid (Box ((w.alloc (.cells #[.slice ap np cp,.int .i64 ar,.int .i64 ce,.slice ab nb cb] 25)).alloc (.map #[] 0)) w.heap.size #[.slice ap np cp,.int .i64 ar,.int .i64 ce,.slice ab nb cb]):=h! ((Box.new w _ _).alloc _)
 have HW:Hid (Below w.heap.size w ((w.alloc (.cells #[.slice ap np cp,.int .i64 ar,.int .i64 ce,.slice ab nb cb] 25)).alloc (.map #[] 0))):=h! (((Below.refl _ _).alloc (aA _) _).alloc (by simp) _)
 generalize ((w.alloc (.cells #[.slice ap np cp,.int .i64 ar,.int .i64 ce,.slice ab nb cb] 25)).alloc (.map #[] 0))=w1 at *
 obtain ⟨bm,hbm2⟩ : ∃ bm,bm=w.heap.size+1:=⟨_,rfl⟩
 obtain ⟨b1,hb1⟩ : ∃ b1,b1=w.heap.size:=⟨_,rfl⟩
 rw [<-hbm2] at HI
 rw [<-hb1] at B1
 have HBM:Hid (w.heap.size < bm/\b1 ≠ bm/\w.heap.size <= bm):=h! (by omega)
 simp only [<-hbm2]
 simp only [<-hb1]
 have HWT:Hid (∀ wr wr',Below w.heap.size w wr -> Turn [bm] wr wr' -> Below w.heap.size w wr'):=h! (fun wr wr' h1 h2=>h1.trans (h2.below h1.size fun x hx=>by simp at hx;subst hx;exact HBM.out.2.2))
 clear hbm2 hb1
 obtain ⟨lB1,cB1,fB1⟩:=B1.out
 go_wp2_with fail
 go_loopw [15] (fun i wr => ∃ j:Nat,j <= np/\i = .int .i64 j/\IMap wr bm (defM (parN j))/\Below w.heap.size w wr/\Box wr b1 #[.slice ap np cp,.int .i64 ar,.int .i64 ce,.slice ab nb cb]) (fun i _=>np - (intOf i).toNat)
 case atStart=>exact ⟨0,aJ _,rfl,HI.out,HW.out,B1.out⟩
 obtain ⟨j,hj,rfl,hI,hW,hB1⟩:=hrel
 clear lB1 cB1 fB1
 replace HI:=h! hI
 replace HW:=h! hW
 replace B1:=h! hB1
 clear hI hW hB1
 generalize wr=w2 at *
 by_cases hlt:j < np
 ·go_wp2_with (at_mapUpdate;refine fT (q:=.i64) (b:=bm) (mm:=defM (parN j)) (y:=j) rfl _ _ _ _ (.inl rfl) Tryz.underlying94 Tryz.underlying3 rfl HI.out rfl ?_;intro w3 hm2 hz2 ht2;have HP:=h! hm2;have HTT:=h! ht2;clear hm2 hz2 ht2)
  go_roundw
  case rel=>exact ⟨j+1,hlt,by go_num,by rw [oS,mT];exact HP.out,HWT.out _ _ HW.out HTT.out,B1.out.turn HTT.out (by simp;exact HBM.out.2.1)⟩
  simp [intOf];omega
 obtain rfl:j=np:=by omega
 obtain ⟨lB1,cB1,fB1⟩:=B1.out
 go_wp2_with fail
 clear lB1 cB1 fB1 B1
 have HI0:Hid (IMap w2 bm (defM (parN j ++ blkN f 0))):=h! (by simpa [blkN] using HI.out)
 go_loopw [25] (fun i wr => ∃ c:Nat,c <= nb/\i = .int .i64 c/\IMap wr bm (defM (parN j ++ blkN f c))/\Below w.heap.size w wr) (fun i _=>nb - (intOf i).toNat)
 case atStart=>exact ⟨0,aJ _,rfl,HI0.out,HW.out⟩
 obtain ⟨c,hc,rfl,hI,hW⟩:=hrel
 clear HI0
 replace HI:=h! hI
 replace HW:=h! hW
 clear hI hW
 generalize wr=wb at *
 by_cases hltb:c < nb
 ·obtain ⟨rfl,hbw⟩:=HBA.out (by omega)
  obtain ⟨x,hjx⟩ : ∃ x,f.blocks[c]? = some x:=⟨_,aC (by have:=HNB.out;omega)⟩
  obtain ⟨api,aii,ati,cpi,cii,cti,hC⟩:=HBX.out c x hjx
  have HSN:=h! (kC hjx)
  have hB1:=hC.phis
  have hB2:=hC.code
  obtain ⟨pl,hpl2⟩ : ∃ pl,pl=x.phis.length:=⟨_,rfl⟩
  obtain ⟨cl,hcl⟩ : ∃ cl,cl=x.code.length:=⟨_,rfl⟩
  obtain ⟨ac,capc,bcd,ocd,hce1,hcc,hcm,hcl16,hca,hcx⟩:=fS hB2
  obtain ⟨apx,capp,bph,oph,hpe1,hppc,hppm,hpl16,hpa2,hpx2⟩:=fH hB1
  obtain ⟨k0,k1,k2,k3,k4,k5,q1,q2,q3,q4,q5,q6⟩:=hC.below HW.out hbw
  rw [<-hpl2] at hpe1 hppc hpl16 hpa2 k0
  rw [<-hcl] at hce1 hcc hcl16 hca k1
  cases hpe1
  cases hce1
  have HPL:=h! hpl2
  have HCL:=h! hcl
  have HPA2:=h! hpa2
  have HPX2:=h! hpx2
  have HCA2:=h! hca
  have HCX2:=h! hcx
  have HBW:Hid (bm < wb.heap.size):=h! HI.out.lt
  clear hpl2 hcl hpa2 hpx2 hca hcx q1 q2 q3 q4 q5 q6 hC hB1 hB2 hjx
  obtain ⟨E0,hE0⟩ : ∃ E0,E0=parN j ++ blkN f c:=⟨_,rfl⟩
  rw [<-hE0] at HI
  have HE0:=h! hE0
  clear hE0
  go_upto_region 10 with (fail)
  have hA_:=(Below.refl wb.heap.size wb).alloc (aA _) (.cells #[.slice api pl cpi,.slice aii cl cii,.int .i64 x.term.op,.int .i64 x.term.val,.slice ati x.term.to.length cti,.int .i64 x.term.n] 63)
  replace HI:=h! (HI.out.later hA_)
  replace HW:=h! (HW.out.trans (hA_.mono HW.out.size))
  clear hA_
  have B5:=h! (Box.new wb #[.slice api pl cpi,.slice aii cl cii,.int .i64 x.term.op,.int .i64 x.term.val,.slice ati x.term.to.length cti,.int .i64 x.term.n] 63)
  generalize wb.alloc (.cells #[.slice api pl cpi,.slice aii cl cii,.int .i64 x.term.op,.int .i64 x.term.val,.slice ati x.term.to.length cti,.int .i64 x.term.n] 63)=w5 at *
  obtain ⟨lB5,cB5,fB5⟩:=B5.out
  clear k0 k1 k2 k3 k4 k5
  go_wp2_with fail
  go_loopw [33] (fun i wr => ∃ j1:Nat,j1 <= pl/\i = .int .i64 j1/\IMap wr bm (defM (E0 ++ phiN c x.phis j1))/\Below w.heap.size w wr/\Box wr wb.heap.size #[.slice api pl cpi,.slice aii cl cii,.int .i64 x.term.op,.int .i64 x.term.val,.slice ati x.term.to.length cti,.int .i64 x.term.n]) (fun i _=>pl - (intOf i).toNat)
  case atStart=>exact ⟨0,Nat.zero_le _,rfl,by simpa [phiN] using HI.out,HW.out,B5.out⟩
  obtain ⟨j1,hj1,rfl,hI,hW,hB5⟩:=hrel
  clear lB5 cB5 fB5
  replace HI:=h! hI
  replace HW:=h! hW
  replace B5:=h! hB5
  clear hI hW hB5
  generalize wr=w7 at *
  obtain ⟨lB5,cB5,fB5⟩:=B5.out
  by_cases hlt1:j1 < pl
  ·obtain ⟨rfl,hbp⟩:=HPA2.out (by omega)
   obtain ⟨p,hkp⟩ : ∃ p,x.phis[j1]? = some p:=⟨_,aC (by have:=HPL.out;omega)⟩
   obtain ⟨af,av,cf,cv,hP⟩:=HPX2.out j1 p hkp
   obtain ⟨m0,m1,m2,m3,r1,r2,r3,r4⟩:=hP.below HW.out hbp
   have HSP:Hid (defM (E0 ++ phiN c x.phis (j1+1))=mput (defM (E0 ++ phiN c x.phis j1)) p.id (.agg #[.int .i64 c,.int .i64 (-1)])):=h! (by rw [mS hkp, <-List.append_assoc,mT];rfl)
   clear r1 r2 r3 r4 hP hkp
   go_upto_region 13 with (fail)
   have nB7B5:w7.heap.size ≠ wb.heap.size:=fun e=>by have:=lB5;omega
   have nB5B7:wb.heap.size ≠ w7.heap.size:=fun e=>nB7B5 e.symm
   clear lB5 cB5 fB5
   have hA_:=(Below.refl w7.heap.size w7).alloc (aA _) (.cells #[.int .i64 p.id,.int .i64 p.typ,.slice af p.src.length cf,.slice av p.vals.length cv] 78)
   replace B5:=h! (B5.out.later hA_)
   replace HI:=h! (HI.out.later hA_)
   replace HW:=h! (HW.out.trans (hA_.mono HW.out.size))
   clear hA_
   have B7:=h! (Box.new w7 #[.int .i64 p.id,.int .i64 p.typ,.slice af p.src.length cf,.slice av p.vals.length cv] 78)
   generalize w7.alloc (.cells #[.int .i64 p.id,.int .i64 p.typ,.slice af p.src.length cf,.slice av p.vals.length cv] 78)=w8 at *
   obtain ⟨lB5,cB5,fB5⟩:=B5.out
   obtain ⟨lB7,cB7,fB7⟩:=B7.out
   clear m0 m1 m2 m3
   go_wp2_with (at_mapUpdate;refine fT (q:=.i64) (b:=bm) (mm:=defM (E0 ++ phiN c x.phis j1)) (y:=p.id) rfl _ _ _ _ (.inl rfl) Tryz.underlying94 Tryz.underlying3 rfl HI.out rfl ?_;intro w9 hm2 hz2 ht2;have HP:=h! hm2;have HTT:=h! ht2;clear hm2 hz2 ht2)
   go_roundw
   case rel=>exact ⟨j1+1,hlt1,by go_num,by rw [HSP.out];exact HP.out,HWT.out _ _ HW.out HTT.out,B5.out.turn HTT.out (by simp;have:=HBW.out;omega)⟩
   simp [intOf];omega
  obtain rfl:j1=pl:=by omega
  obtain ⟨E1,hE1⟩ : ∃ E1,E1=E0 ++ phiN c x.phis j1:=⟨_,rfl⟩
  rw [<-hE1] at HI
  have HE1:=h! hE1
  clear hE1
  go_wp2_with fail
  go_loopw [46] (fun i wr => ∃ j2:Nat,j2 <= cl/\i = .int .i64 j2/\IMap wr bm (defM (E1 ++ codN c x.code j2))/\Below w.heap.size w wr) (fun i _=>cl - (intOf i).toNat)
  case atStart=>exact ⟨0,Nat.zero_le _,rfl,by simpa [codN] using HI.out,HW.out⟩
  obtain ⟨j2,hj2,rfl,hI,hW⟩:=hrel
  clear lB5 cB5 fB5 B5
  replace HI:=h! hI
  replace HW:=h! hW
  clear hI hW
  generalize wr=w11 at *
  by_cases hlt3:j2 < cl
  ·obtain ⟨rfl,hbp⟩:=HCA2.out (by omega)
   obtain ⟨y,hky⟩ : ∃ y,x.code[j2]? = some y:=⟨_,aC (by have:=HCL.out;omega)⟩
   obtain ⟨aa,ca,hP⟩:=HCX2.out j2 y hky
   obtain ⟨m0,m1,m2,m3,r1,r2,r3,r4⟩:=hP.below HW.out hbp
   have HSC:=h! (lC (b:=c) hky)
   clear r1 r2 r3 r4 hP hky
   go_upto_region 18 with (fail)
   have hA_:=(Below.refl w11.heap.size w11).alloc (aA _) (.cells #[.int .i64 y.op,.int .i64 y.id,.slice aa y.args.length ca,.int .i64 y.n] 82)
   replace HI:=h! (HI.out.later hA_)
   replace HW:=h! (HW.out.trans (hA_.mono HW.out.size))
   clear hA_
   have B8:=h! (Box.new w11 #[.int .i64 y.op,.int .i64 y.id,.slice aa y.args.length ca,.int .i64 y.n] 82)
   generalize w11.alloc (.cells #[.int .i64 y.op,.int .i64 y.id,.slice aa y.args.length ca,.int .i64 y.n] 82)=w12 at *
   obtain ⟨lB8,cB8,fB8⟩:=B8.out
   clear m0 m1 m2 m3
   by_cases hid:0 <= y.id
   ·have HSD:Hid (defM (E1 ++ codN c x.code (j2+1))=mput (defM (E1 ++ codN c x.code j2)) y.id (.agg #[.int .i64 c,.int .i64 j2])):=h! (by rw [HSC.out,if_pos hid, <-List.append_assoc,mT];rfl)
    go_wp2_with (at_mapUpdate;refine fT (q:=.i64) (b:=bm) (mm:=defM (E1 ++ codN c x.code j2)) (y:=y.id) rfl _ _ _ _ (.inl rfl) Tryz.underlying94 Tryz.underlying3 rfl HI.out rfl ?_;intro w13 hm2 hz2 ht2;have HP:=h! hm2;have HTT:=h! ht2;clear hm2 hz2 ht2)
    go_roundw
    case rel=>exact ⟨j2+1,hlt3,by go_num,by rw [HSD.out];exact HP.out,HWT.out _ _ HW.out HTT.out⟩
    simp [intOf];omega
   have HSD:Hid (defM (E1 ++ codN c x.code (j2+1))=defM (E1 ++ codN c x.code j2)):=h! (by rw [HSC.out,if_neg hid,bR])
   go_wp2
   go_roundw
   case rel=>exact ⟨j2+1,hlt3,by go_num,by rw [HSD.out];exact HI.out,HW.out⟩
   simp [intOf];omega
  obtain rfl:j2=cl:=by omega
  have HSD:Hid (defM (parN j ++ blkN f (c+1))=defM (E1 ++ codN c x.code j2)):=h! (by rw [HSN.out,HE1.out,HE0.out,HPL.out,HCL.out];simp [entB])
  go_wp2
  go_roundw
  case rel=>exact ⟨c+1,hltb,by go_num,by rw [HSD.out];exact HI.out,HW.out⟩
  simp [intOf];omega
 obtain rfl:c=nb:=by omega
 have HIE:Hid (IMap wb bm (defM (entF f))):=h! (by have h9:=HI.out;rw [HNP.out,HNB.out] at h9;exact h9)
 go_wp2
 go_ret
 exact ⟨bm,rfl,HIE.out,HBM.out.1,HW.out⟩
theorem aAM (b:Nat) (xs:List InstrD) (h:∀ y ∈ xs,(0 <= y.id ↔ (shp0 y.op).result ≠ 0)):∀ k,k <= xs.length -> (codN b xs k).map (·.1)=((xs.take k).filter fun y=>(shp0 y.op).result != 0).map (·.id):=by
 intro k
 induction k with
 | zero=>intro _;simp [codN]
 | succ k ih =>
  intro hk
  obtain ⟨y,hy⟩ : ∃ y,xs[k]? = some y:=⟨_,aC (by omega)⟩
  rw [lC hy,eP xs k y hy,bC,eA,bC,ih (by omega)]
  congr 1
  have h1:=h y (aG hy)
  by_cases h2:0 <= y.id
  ·have h3:=h1.1 h2
   simp [h2,h3]
  have h3:(shp0 y.op).result=0:=Classical.byContradiction fun h4=>h2 (h1.2 h4)
  simp [h2,h3]
theorem aAN (b:Nat) (x:BlockD) (h:∀ y ∈ x.code,(0 <= y.id ↔ (shp0 y.op).result ≠ 0)):(entB b x).map (·.1)=(gL x).map (·.1):=by
 unfold entB gL
 rw [bC,bC,aAM b x.code h _ (aA _)]
 simp [phiN,cI,Function.comp_def]
theorem aAO (f:FuncD) (h:∀ x ∈ f.blocks, ∀ y ∈ x.code,(0 <= y.id ↔ (shp0 y.op).result ≠ 0)):∀ c,c <= f.blocks.length -> (blkN f c).map (·.1)=((f.blocks.take c).flatMap gL).map (·.1):=by
 intro c
 induction c with
 | zero=>intro _;simp [blkN]
 | succ c ih =>
  intro hc
  obtain ⟨x,hx⟩ : ∃ x,f.blocks[c]? = some x:=⟨_,aC (by omega)⟩
  rw [kC hx,eP f.blocks c x hx,bC,List.flatMap_append,bC,ih (by omega),aAN c x (h x (aG hx))]
  simp
theorem uG {f:FuncD} (h:eS f=0):∀ x ∈ f.blocks, ∀ y ∈ x.code,(0 <= y.id ↔ (shp0 y.op).result ≠ 0):=by
 intro x hx y hy
 obtain ⟨h1,h2⟩:=fA h
 obtain ⟨b,hb⟩:=bJ.1 hx
 constructor
 ·intro h0 hr
  unfold gS at h1
  simp only [aK,bB] at h1
  have h3:=h1.2 (x,b) (by rw [bT];exact hb)
  unfold fX at h3
  simp only [aK,bB] at h3
  have h4:=h3.1.2 y hy
  unfold fW at h4
  simp [hr] at h4
  omega
 intro hr
 unfold idsF idsB at h2
 rw [aK,bB] at h2
 have h3:=h2.2 (y.id,(shp0 y.op).result) (by
  unfold lW
  rw [cZ]
  refine ⟨x,hx, ?_⟩
  unfold gL
  rw [aN]
  right
  rw [aX]
  exact ⟨y,List.mem_filter.2 ⟨hy,by simpa using hr⟩,rfl⟩)
 simp at h3
 omega
theorem qL {f:FuncD} (h:eS f=0):(entF f).map (·.1)=(eQ f).map (·.1):=by
 unfold entF eQ
 rw [bC,bC,mI,aAO f (uG h) _ (aA _),cO]
 congr 1
 simp [parN,cI,Function.comp_def]
theorem aAP {f:FuncD} (h:eS f=0):((entF f).map (·.1)).Nodup:=by
 rw [qL h]
 have h2:=(fA h).2
 unfold idsF idsB at h2
 rw [aK,decide_eq_true_eq] at h2
 exact h2.1
theorem aAQ {f:FuncD} (h:eS f=0) (id:Int):mget (defM (entF f)) id=((entF f).find? fun e=>e.1 == id).map defV:=aCH id _ _ rfl (aAP h)
theorem tF (w:World):(zeroValue 171).run Tryz.prog w = .ok (.agg #[.int .i64 0,.int .i64 0]) w:=by kernel_rfl
section
variable {P:Program} {w:World}
theorem IMap.lookup0 {t k e:TypeId} {q:IntKind} {b:Nat} {m:List (Int × Value)} (h:IMap w b m) (ht:P.underlying t=some (.map k e)) (hk:P.underlying k=some (.int q)) {z:Value} (hz:(zeroValue e).run P w = .ok z w) (x:Int) :
  (Instr.lookup t (.map (some b)) (.int .i64 x) false).run P w = .ok ((mget m x).getD z) w:=by
 obtain ⟨es,c,hh,hm,_⟩:=h.ex
 have hf:=lZ (P:=P) (w:=w) hk x hm
 unfold Instr.lookup
 have hg:(Sem.getObj b Sem.pure:Sem Obj).run P w = .ok (.map es c) w:=by simp [Sem.run,hh]
 rw [nT]
 simp only [Sem.run_bind,run_underlying ht,Result.andThen,getObj,hg,Sem.run_pure,lA hk,hf]
 cases hi:(m.findIdx? (fun p=>p.1 == x)) with
 | none=>simp [hz,Result.andThen,Sem.run_pure]
 | some j =>
  simp only [dQ]
  cases hj:m[j]? with
  | none=>simp [hz,Result.andThen,Sem.run_pure]
  | some p=>simp [Result.andThen,Sem.run_pure]
variable {ops:Array Oper} {rest:List Oper} {o:Oper} {a:Act} {Q:Exit -> Act -> World -> Prop}
theorem nN (hg:o.guard=none) (m x:Operand) (t:TypeId) (hop:o.op=Op.lookup t m x false) {k e:TypeId} {q:IntKind} (ht:P.underlying t=some (.map k e)) (hk:P.underlying k=some (.int q)) {z:Value} (hz:(zeroValue e).run P w = .ok z w)
  {b:Nat} {mm:List (Int × Value)} (hm:a.eval m = .map (some b)) (h:IMap w b mm) {y:Int} (hx:a.eval x = .int .i64 y) (hK:wpList P ops Q rest (a.put o.dst ((mget mm y).getD z)) w):wpList P ops Q (o :: rest) a w:=by
 refine wpList_plain hg fun K' hK' => ?_
 unfold Oper.wp
 simp [execOp,hop,hm,hx,h.lookup0 ht hk hz y,Result.andThen]
 exact hK' _ _ hK
end
theorem pM {w:World} {u v:Value} {xs ys:List Int} (hu:Ints w u xs) (hv:Ints w v ys):Calls Tryz.prog 81 #[u,v] w fun e w'=>e = .returned (.bool (decide (xs=ys)))/\Below w.heap.size w w':=by
 obtain ⟨a1,c1,b1,o1,rfl,hc1,hm1,ha1,hx⟩:=hu.parts
 obtain ⟨a2,c2,b2,o2,rfl,hc2,hm2,ha2,hy⟩:=hv.parts
 obtain ⟨n1,hn1⟩ : ∃ n,n=xs.length:=⟨_,rfl⟩
 obtain ⟨n2,hn2⟩ : ∃ n,n=ys.length:=⟨_,rfl⟩
 rw [<-hn1] at hc1 ha1 hx ⊢
 rw [<-hn2] at hc2 ha2 hy ⊢
 have G1:=h! hn1
 have G2:=h! hn2
 have HA1:=h! ha1
 have HA2:=h! ha2
 have HX:=h! hx
 have HY:=h! hy
 have HW:=h! (Below.refl w.heap.size w)
 clear hu hv hn1 hn2 ha1 ha2 hx hy
 by_cases hne:n1=n2
 ·subst hne
  go_enter Tryz.func81,Tryz.ntmps81
  go_wp2_with fail
  go_loopw [13] (fun i wr => ∃ k:Nat,k <= n1/\i = .int .i64 k/\(∀ j,j < k -> xs.getD j 0=ys.getD j 0)/\Below w.heap.size w wr) (fun i _=>n1 - (intOf i).toNat)
  case atStart=>exact ⟨0,aJ _,rfl,fun j h=>absurd h (eO _),HW.out⟩
  obtain ⟨k,hk,rfl,hs,hW⟩:=hrel
  have HS:=h! hs
  replace HW:=h! hW
  clear hs hW
  generalize wr=w3 at *
  by_cases hlt:k < n1
  ·obtain ⟨rfl,hb1⟩:=HA1.out (by omega)
   obtain ⟨rfl,hb2⟩:=HA2.out (by omega)
   have hxk:=(HW.out.cell (p:=⟨b1,o1+k,none⟩) hb1).trans (HX.out k hlt)
   have hyk:=(HW.out.cell (p:=⟨b2,o2+k,none⟩) hb2).trans (HY.out k hlt)
   obtain ⟨p,hp⟩ : ∃ p,p=xs.getD k 0:=⟨_,rfl⟩
   obtain ⟨q,hq⟩ : ∃ q,q=ys.getD k 0:=⟨_,rfl⟩
   rw [<-hp] at hxk
   rw [<-hq] at hyk
   have H3:=h! hp
   have H4:=h! hq
   clear hp hq
   cases hpq:(p != q)
   ·have HPQ:=h! hpq
    go_upto_region 6 with (fail)
    go_quiet (fail)
    go_wp2
    go_roundw
    case rel =>
     refine ⟨k+1,hlt,by go_num, ?_,eR HW.out _⟩
     intro j hj
     by_cases e:j=k
     ·subst e
      have:=HPQ.out
      simp at this
      rw [<-H3.out, <-H4.out,this]
     exact HS.out j (by omega)
    simp [intOf];omega
   have HPQ:=h! hpq
   go_upto_region 6 with (fail)
   go_quiet (fail)
   go_wp2
   go_ret
   exact ⟨gM (decide_eq_false (fun e=>by
    have:=HPQ.out
    simp at this
    exact this (by rw [H3.out,H4.out,e]))).symm,eR HW.out _⟩
  have hkn:k=n1:=by omega
  have HEQ:Hid (xs=ys):=h! (yH (by rw [<-G1.out, <-G2.out]) (by rw [<-G1.out, <-hkn];exact HS.out))
  clear hkn
  go_wp2
  go_ret
  exact ⟨gM (decide_eq_true HEQ.out).symm,HW.out⟩
 have hq:((n1:Int) != (n2:Int))=true:=by simp;omega
 have HNE:=h! hne
 clear hne
 go_enter Tryz.func81,Tryz.ntmps81
 go_wp2
 go_ret
 exact ⟨gM (decide_eq_false (fun e=>HNE.out (by rw [G1.out,G2.out,e]))).symm,HW.out⟩
theorem aEK {w:World} {v:Value} {xs:List Int} {k:FuncId} {cap:Array Value} (eg:Enters Tryz.prog k) (p:Int -> Bool) (hv:Ints w v xs)
  (hstep:∀ (W:World) (x:Int),x ∈ xs -> Below w.heap.size w W -> Calls Tryz.prog k (#[.int .i64 x] ++ cap) W fun e W'=>e = .returned (.bool (p x))/\Below W.heap.size W W') :
  Calls Tryz.prog 166 #[v,.func (.func k) #[] cap] w fun e w' => ∃ r:Int,e = .returned (.int .i64 r)/\decide (0 <= r)=xs.any p/\Below w.heap.size w w':=by
 obtain ⟨a1,c1,b1,o1,rfl,hc1,hm1,ha1,hx⟩:=hv.parts
 obtain ⟨n1,hn1⟩ : ∃ n,n=xs.length:=⟨_,rfl⟩
 rw [<-hn1] at hc1 ha1 hx ⊢
 have G1:=h! hn1
 have HA1:=h! ha1
 have HX:=h! hx
 have HW:=h! (Below.refl w.heap.size w)
 have HST:=h! hstep
 clear hv hn1 ha1 hx hstep
 have eg1:∀ (args:Array Value) (w:World),(callFunc k args).run Tryz.prog w = .ok (.enter k args) w:=eg
 go_enter Tryz.func166,Tryz.ntmps166
 go_wp2_with fail
 go_loopw [8] (fun i wr => ∃ j:Nat,j <= n1/\i = .int .i64 j/\(xs.take j).any p=false/\Below w.heap.size w wr) (fun i _=>n1 - (intOf i).toNat)
 case atStart=>exact ⟨0,aJ _,rfl,rfl,HW.out⟩
 case round =>
  obtain ⟨j,hj,rfl,hs,hW⟩:=hrel
  have HS:=h! hs
  replace HW:=h! hW
  clear hs hW
  generalize wr=w3 at *
  by_cases hlt:j < n1
  ·obtain ⟨rfl,hb1⟩:=HA1.out (by omega)
   have hxk:=(HW.out.cell (p:=⟨b1,o1+j,none⟩) hb1).trans (HX.out j hlt)
   obtain ⟨x,hx⟩ : ∃ x,x=xs.getD j 0:=⟨_,rfl⟩
   rw [<-hx] at hxk
   have hxm:xs[j]? = some x:=by rw [hx];exact eZ xs j (by have:=G1.out;omega)
   have HXM:=h! (aG hxm)
   have HTK:=h! (eP xs j x hxm)
   clear hx hxm
   obtain ⟨c,hc⟩ : ∃ c,c=p x:=⟨_,rfl⟩
   have HC:=h! hc
   have HCT:=h! (HST.out w3 x HXM.out HW.out)
   rw [<-hc] at HCT
   clear hc
   cases c
   ·go_wp2_with (go_at_fn k;refine HCT.out.mono ?_;rintro e w4 ⟨rfl,hb4⟩;have HB4:=h! hb4;clear hb4)
    have HW4:=h! (HW.out.trans (HB4.out.mono HW.out.size))
    have HS2:Hid ((xs.take (j+1)).any p=false):=h! (by rw [HTK.out,List.any_append,HS.out];simp [<-HC.out])
    go_roundw
    case rel=>exact ⟨j+1,hlt,by go_num,HS2.out,HW4.out⟩
    simp [intOf];omega
   go_wp2_with (go_at_fn k;refine HCT.out.mono ?_;rintro e w4 ⟨rfl,hb4⟩;have HB4:=h! hb4;clear hb4)
   have HW4:=h! (HW.out.trans (HB4.out.mono HW.out.size))
   have HAN:Hid (xs.any p=true):=h! (by rw [eM];exact ⟨x,HXM.out,HC.out.symm⟩)
   go_ret
   exact ⟨j,rfl,by rw [HAN.out];simp,HW4.out⟩
  have HAN:Hid (xs.any p=false):=h! (by have h9:=HS.out;rw [aH (by have:=G1.out;omega)] at h9;exact h9)
  go_wp2
  go_ret
  exact ⟨-1,rfl,by rw [HAN.out];simp,HW.out⟩
theorem aCI {w:World} {v:Value} {xs:List Int} {k:FuncId} {cap:Array Value} (eg:Enters Tryz.prog k) (p:Int -> Bool) (hv:Ints w v xs)
  (hstep:∀ (W:World) (x:Int),x ∈ xs -> Below w.heap.size w W -> Calls Tryz.prog k (#[.int .i64 x] ++ cap) W fun e W'=>e = .returned (.bool (p x))/\Below W.heap.size W W') :
  Calls Tryz.prog 105 #[v,.func (.func k) #[] cap] w fun e w'=>e = .returned (.bool (xs.any p))/\Below w.heap.size w w':=by
 have HC:=h! (aEK eg p hv hstep)
 clear hv hstep
 go_enter Tryz.func105,Tryz.ntmps105
 go_wp2_with fail
 refine HC.out.mono ?_
 rintro e w2 ⟨r,rfl,hr,hb⟩
 have HR:=h! hr
 have HB:=h! hb
 clear hr hb
 go_wp2
 go_ret
 exact ⟨gM HR.out,HB.out⟩
end Go.Proofs.YtagabiidbbhhmaaGreat
