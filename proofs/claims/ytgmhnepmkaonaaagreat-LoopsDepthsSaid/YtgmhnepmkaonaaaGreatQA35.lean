/- Part 35. -/
import Derived.Test.YtgmhnepmkaonaaaGreatQA30
namespace Go.Proofs.YtgmhnepmkaonaaaGreat
set_option linter.unusedSimpArgs false
set_option linter.unusedVariables false
open Go.RowKit
def parN (n:Nat):List (Int × Int × Int):=(List.range n).map fun (j:Nat)=>((j:Int),(0:Int),(-1:Int))
def phiN (b:Nat) (ps:List PhiD) (i:Nat):List (Int × Int × Int):=(ps.take i).map fun p=>(p.id,(b:Int),(-1:Int))
def codN (b:Nat) (xs:List InstrD) (k:Nat):List (Int × Int × Int):=((xs.take k).zipIdx).filterMap fun xj=>if 0 <= xj.1.id then some (xj.1.id,(b:Int),(xj.2:Int)) else none
def entB (b:Nat) (x:BlockD):List (Int × Int × Int):=phiN b x.phis x.phis.length ++ codN b x.code x.code.length
def blkN (f:FuncD) (c:Nat):List (Int × Int × Int):=((f.blocks.take c).zipIdx).flatMap fun xb=>entB xb.2 xb.1
def entF (f:FuncD):List (Int × Int × Int):=parN f.params.length ++ blkN f f.blocks.length
theorem parN_succ (n:Nat):parN (n+1)=parN n ++ [((n:Int),(0:Int),(-1:Int))]:=by simp [parN,List.range_succ]
theorem phiN_succ {b:Nat} {ps:List PhiD} {i:Nat} {p:PhiD} (h:ps[i]? = some p):phiN b ps (i+1)=phiN b ps i ++ [(p.id,(b:Int),(-1:Int))]:=by
 simp [phiN,take_snoc ps i p h]
theorem codN_succ {b:Nat} {xs:List InstrD} {k:Nat} {y:InstrD} (h:xs[k]? = some y):codN b xs (k+1)=codN b xs k ++ (if 0 <= y.id then [(y.id,(b:Int),(k:Int))] else []):=by
 have hk:(xs.take k).length=k:=by
  have:=(List.getElem?_eq_some_iff.1 h).1
  rw [List.length_take];omega
 unfold codN
 rw [take_snoc xs k y h,List.zipIdx_append,List.filterMap_append]
 congr 1
 simp only [List.zipIdx_cons,List.zipIdx_nil,List.filterMap_cons,List.filterMap_nil,hk,Nat.zero_add]
 split <;> rename_i h1
 ·split at h1
  ·cases h1
  ·rename_i h2;rw [if_neg h2]
 ·split at h1
  ·cases h1;rename_i h2;rw [if_pos h2]
  ·cases h1
theorem blkN_succ {f:FuncD} {c:Nat} {x:BlockD} (h:f.blocks[c]? = some x):blkN f (c+1)=blkN f c ++ entB c x:=by
 have hk:(f.blocks.take c).length=c:=by
  have:=(List.getElem?_eq_some_iff.1 h).1
  rw [List.length_take];omega
 unfold blkN
 rw [take_snoc f.blocks c x h,List.zipIdx_append,List.flatMap_append]
 simp [hk]
def defV (e:Int × Int × Int):Value:=.agg #[.int .i64 e.2.1,.int .i64 e.2.2]
def defM (l:List (Int × Int × Int)):List (Int × Value):=l.foldl (fun m e=>mput m e.1 (defV e)) []
theorem defM_snoc (l:List (Int × Int × Int)) (e:Int × Int × Int):defM (l ++ [e])=mput (defM l) e.1 (defV e):=by simp [defM]
theorem defM_get (id:Int):∀ (n:Nat) (l:List (Int × Int × Int)),l.length=n -> (l.map (·.1)).Nodup -> mget (defM l) id=(l.find? fun e=>e.1 == id).map defV:=by
 intro n
 induction n with
 | zero=>intro l hl _;rw [List.eq_nil_of_length_eq_zero hl];rfl
 | succ n ih =>
  intro l hl hnd
  obtain ⟨k,e,rfl⟩ : ∃ k e,l=k ++ [e]:=⟨l.dropLast,l.getLast (by intro h;rw [h] at hl;cases hl),(List.dropLast_concat_getLast _).symm⟩
  rw [List.length_append,List.length_singleton] at hl
  rw [List.map_append,List.nodup_append] at hnd
  rw [defM_snoc,mget_mput,ih k (by omega) hnd.1,List.find?_append]
  by_cases h:id=e.1
  ·rw [if_pos h]
   have hno:k.find? (fun e=>e.1 == id)=none:=by
    rw [List.find?_eq_none]
    intro x hx hxe
    simp only [beq_iff_eq] at hxe
    exact hnd.2.2 x.1 (List.mem_map.2 ⟨x,hx,rfl⟩) e.1 (by simp) (by rw [hxe,h])
   rw [hno,Option.none_or]
   simp [List.find?_cons,h]
  ·rw [if_neg h]
   have hno:[e].find? (fun e=>e.1 == id)=none:=by simp;exact fun h2=>h h2.symm
   rw [hno,Option.or_none]
set_option maxHeartbeats 25600000 in
set_option maxRecDepth 100000 in
theorem strictDefs {w:World} {v:Value} {f:FuncD} (hv:FuncV w v f):Calls Tryz.prog 97 #[v] w fun e w' => ∃ bm,e = .returned (.map (some bm))/\IMap w' bm (defM (entF f))/\w.heap.size < bm/\Below w.heap.size w w':=by
 obtain ⟨ap,cp,ab,cb,rfl,hp,ha,hc,hB⟩:=hv.form
 have hpl:=hp.le
 obtain ⟨a2,c2,bb,bo,hbe,hbc,hbm,hbl,hba,hbx⟩:=blocks_parts hB
 cases hbe
 obtain ⟨np,hnp⟩ : ∃ np,np=f.params.length:=⟨_,rfl⟩
 obtain ⟨nb,hnb⟩ : ∃ nb,nb=f.blocks.length:=⟨_,rfl⟩
 rw [<-hnp] at hpl ⊢
 rw [<-hnb] at hbc hba hbl ⊢
 have HNB:=hd hnb
 have HNP:=hd hnp
 have HBA:=hd hba
 have HBX:=hd hbx
 clear hp ha hc hB hv hbx hnp hnb hba
 generalize f.arrays=ar at *
 generalize f.cells=ce at *
 have hmm:=@run_makeMap Tryz.prog
 go_enter Tryz.func97,Tryz.ntmps97
 go_upto_region 2 with (fail)
 clear hmm
 have HI:Hid (IMap ((w.alloc (.cells #[.slice ap np cp,.int .i64 ar,.int .i64 ce,.slice ab nb cb] 25)).alloc (.map #[] 0)) (w.heap.size+1) (defM (parN 0))):=hd (by
  have h:=IMap.new (w.alloc (.cells #[.slice ap np cp,.int .i64 ar,.int .i64 ce,.slice ab nb cb] 25))
  simpa [parN,defM] using h)
 have B1:Hid (Box ((w.alloc (.cells #[.slice ap np cp,.int .i64 ar,.int .i64 ce,.slice ab nb cb] 25)).alloc (.map #[] 0)) w.heap.size #[.slice ap np cp,.int .i64 ar,.int .i64 ce,.slice ab nb cb]):=hd ((Box.new w _ _).alloc _)
 have HW:Hid (Below w.heap.size w ((w.alloc (.cells #[.slice ap np cp,.int .i64 ar,.int .i64 ce,.slice ab nb cb] 25)).alloc (.map #[] 0))):=hd (((Below.refl _ _).alloc (Nat.le_refl _) _).alloc (by simp) _)
 generalize ((w.alloc (.cells #[.slice ap np cp,.int .i64 ar,.int .i64 ce,.slice ab nb cb] 25)).alloc (.map #[] 0))=w1 at *
 obtain ⟨bm,hbm2⟩ : ∃ bm,bm=w.heap.size+1:=⟨_,rfl⟩
 obtain ⟨b1,hb1⟩ : ∃ b1,b1=w.heap.size:=⟨_,rfl⟩
 rw [<-hbm2] at HI
 rw [<-hb1] at B1
 have HBM:Hid (w.heap.size < bm/\b1 ≠ bm/\w.heap.size <= bm):=hd (by omega)
 simp only [<-hbm2]
 simp only [<-hb1]
 have HWT:Hid (∀ wr wr',Below w.heap.size w wr -> Turn [bm] wr wr' -> Below w.heap.size w wr'):=hd (fun wr wr' h1 h2=>h1.trans (h2.below h1.size fun x hx=>by simp at hx;subst hx;exact HBM.out.2.2))
 clear hbm2 hb1
 obtain ⟨lB1,cB1,fB1⟩:=B1.out
 go_wp2_with fail
 go_loopw [15] (fun i wr => ∃ j:Nat,j <= np/\i = .int .i64 j/\IMap wr bm (defM (parN j))/\Below w.heap.size w wr/\Box wr b1 #[.slice ap np cp,.int .i64 ar,.int .i64 ce,.slice ab nb cb]) (fun i _=>np - (intOf i).toNat)
 case atStart=>exact ⟨0,Nat.zero_le _,rfl,HI.out,HW.out,B1.out⟩
 case round =>
  obtain ⟨j,hj,rfl,hI,hW,hB1⟩:=hrel
  clear lB1 cB1 fB1
  replace HI:=hd hI
  replace HW:=hd hW
  replace B1:=hd hB1
  clear hI hW hB1
  generalize wr=w2 at *
  by_cases hlt:j < np
  ·go_wp2_with (at_mapUpdate;refine wpList_put (q:=.i64) (b:=bm) (mm:=defM (parN j)) (y:=j) rfl _ _ _ _ (.inl rfl) Tryz.underlying99 Tryz.underlying3 rfl HI.out rfl ?_;intro w3 hm2 hz2 ht2;have HP:=hd hm2;have HTT:=hd ht2;clear hm2 hz2 ht2)
   go_roundw
   case rel=>exact ⟨j+1,hlt,by go_num,by rw [parN_succ,defM_snoc];exact HP.out,HWT.out _ _ HW.out HTT.out,B1.out.turn HTT.out (by simp;exact HBM.out.2.1)⟩
   case measure=>simp [intOf];omega
  ·obtain rfl:j=np:=by omega
   obtain ⟨lB1,cB1,fB1⟩:=B1.out
   go_wp2_with fail
   clear lB1 cB1 fB1 B1
   have HI0:Hid (IMap w2 bm (defM (parN j ++ blkN f 0))):=hd (by simpa [blkN] using HI.out)
   go_loopw [25] (fun i wr => ∃ c:Nat,c <= nb/\i = .int .i64 c/\IMap wr bm (defM (parN j ++ blkN f c))/\Below w.heap.size w wr) (fun i _=>nb - (intOf i).toNat)
   case atStart=>exact ⟨0,Nat.zero_le _,rfl,HI0.out,HW.out⟩
   case round =>
    obtain ⟨c,hc,rfl,hI,hW⟩:=hrel
    clear HI0
    replace HI:=hd hI
    replace HW:=hd hW
    clear hI hW
    generalize wr=wb at *
    by_cases hltb:c < nb
    ·obtain ⟨rfl,hbw⟩:=HBA.out (by omega)
     obtain ⟨x,hjx⟩ : ∃ x,f.blocks[c]? = some x:=⟨_,List.getElem?_eq_getElem (by have:=HNB.out;omega)⟩
     obtain ⟨api,aii,ati,cpi,cii,cti,hC⟩:=HBX.out c x hjx
     have HSN:=hd (blkN_succ hjx)
     have hB1:=hC.phis
     have hB2:=hC.code
     obtain ⟨pl,hpl2⟩ : ∃ pl,pl=x.phis.length:=⟨_,rfl⟩
     obtain ⟨cl,hcl⟩ : ∃ cl,cl=x.code.length:=⟨_,rfl⟩
     obtain ⟨ac,capc,bcd,ocd,hce1,hcc,hcm,hcl16,hca,hcx⟩:=code_parts hB2
     obtain ⟨apx,capp,bph,oph,hpe1,hppc,hppm,hpl16,hpa2,hpx2⟩:=phis_parts hB1
     obtain ⟨k0,k1,k2,k3,k4,k5,q1,q2,q3,q4,q5,q6⟩:=hC.below HW.out hbw
     rw [<-hpl2] at hpe1 hppc hpl16 hpa2 k0
     rw [<-hcl] at hce1 hcc hcl16 hca k1
     cases hpe1
     cases hce1
     have HPL:=hd hpl2
     have HCL:=hd hcl
     have HPA2:=hd hpa2
     have HPX2:=hd hpx2
     have HCA2:=hd hca
     have HCX2:=hd hcx
     have HBW:Hid (bm < wb.heap.size):=hd HI.out.lt
     clear hpl2 hcl hpa2 hpx2 hca hcx q1 q2 q3 q4 q5 q6 hC hB1 hB2 hjx
     obtain ⟨E0,hE0⟩ : ∃ E0,E0=parN j ++ blkN f c:=⟨_,rfl⟩
     rw [<-hE0] at HI
     have HE0:=hd hE0
     clear hE0
     go_upto_region 10 with (fail)
     have B5_:Box (wb.alloc (.cells #[.slice api pl cpi,.slice aii cl cii,.int .i64 x.term.op,.int .i64 x.term.val,.slice ati x.term.to.length cti,.int .i64 x.term.n] 75)) (wb.heap.size) #[.slice api pl cpi,.slice aii cl cii,.int .i64 x.term.op,.int .i64 x.term.val,.slice ati x.term.to.length cti,.int .i64 x.term.n]:=by simpa using (Box.new wb #[.slice api pl cpi,.slice aii cl cii,.int .i64 x.term.op,.int .i64 x.term.val,.slice ati x.term.to.length cti,.int .i64 x.term.n] 75)
     have HI_:=(HI.out.alloc (.cells #[.slice api pl cpi,.slice aii cl cii,.int .i64 x.term.op,.int .i64 x.term.val,.slice ati x.term.to.length cti,.int .i64 x.term.n] 75))
     have HW_:Below w.heap.size w (wb.alloc (.cells #[.slice api pl cpi,.slice aii cl cii,.int .i64 x.term.op,.int .i64 x.term.val,.slice ati x.term.to.length cti,.int .i64 x.term.n] 75)):=(HW.out.alloc (by first | exact Nat.le_refl _ | exact HW.out.size | (simp only [World.size_alloc,World.size_setCell];have:=HW.out.size;omega)) _)
     clear HI HW
     generalize (wb.alloc (.cells #[.slice api pl cpi,.slice aii cl cii,.int .i64 x.term.op,.int .i64 x.term.val,.slice ati x.term.to.length cti,.int .i64 x.term.n] 75))=w5 at *
     have B5:=hd B5_
     clear B5_
     have HI:=hd HI_
     clear HI_
     have HW:=hd HW_
     clear HW_
     obtain ⟨lB5,cB5,fB5⟩:=B5.out
     clear k0 k1 k2 k3 k4 k5
     go_wp2_with fail
     go_loopw [33] (fun i wr => ∃ j1:Nat,j1 <= pl/\i = .int .i64 j1/\IMap wr bm (defM (E0 ++ phiN c x.phis j1))/\Below w.heap.size w wr/\Box wr wb.heap.size #[.slice api pl cpi,.slice aii cl cii,.int .i64 x.term.op,.int .i64 x.term.val,.slice ati x.term.to.length cti,.int .i64 x.term.n]) (fun i _=>pl - (intOf i).toNat)
     case atStart=>exact ⟨0,Nat.zero_le _,rfl,by simpa [phiN] using HI.out,HW.out,B5.out⟩
     case round =>
      obtain ⟨j1,hj1,rfl,hI,hW,hB5⟩:=hrel
      clear lB5 cB5 fB5
      replace HI:=hd hI
      replace HW:=hd hW
      replace B5:=hd hB5
      clear hI hW hB5
      generalize wr=w7 at *
      obtain ⟨lB5,cB5,fB5⟩:=B5.out
      by_cases hlt1:j1 < pl
      ·obtain ⟨rfl,hbp⟩:=HPA2.out (by omega)
       obtain ⟨p,hkp⟩ : ∃ p,x.phis[j1]? = some p:=⟨_,List.getElem?_eq_getElem (by have:=HPL.out;omega)⟩
       obtain ⟨af,av,cf,cv,hP⟩:=HPX2.out j1 p hkp
       obtain ⟨m0,m1,m2,m3,r1,r2,r3,r4⟩:=hP.below HW.out hbp
       have HSP:Hid (defM (E0 ++ phiN c x.phis (j1+1))=mput (defM (E0 ++ phiN c x.phis j1)) p.id (.agg #[.int .i64 c,.int .i64 (-1)])):=hd (by rw [phiN_succ hkp, <-List.append_assoc,defM_snoc];rfl)
       clear r1 r2 r3 r4 hP hkp
       go_upto_region 13 with (fail)
       have nB7B5:w7.heap.size ≠ wb.heap.size:=fun e=>by have:=lB5;omega
       have nB5B7:wb.heap.size ≠ w7.heap.size:=fun e=>nB7B5 e.symm
       have B5_:Box (w7.alloc (.cells #[.int .i64 p.id,.int .i64 p.typ,.slice af p.src.length cf,.slice av p.vals.length cv] 83)) (wb.heap.size) #[.slice (some ⟨bph,oph,none⟩) pl cpi,.slice aii cl cii,.int .i64 x.term.op,.int .i64 x.term.val,.slice ati x.term.to.length cti,.int .i64 x.term.n]:=by simpa using (B5.out.alloc _)
       have B7_:Box (w7.alloc (.cells #[.int .i64 p.id,.int .i64 p.typ,.slice af p.src.length cf,.slice av p.vals.length cv] 83)) (w7.heap.size) #[.int .i64 p.id,.int .i64 p.typ,.slice af p.src.length cf,.slice av p.vals.length cv]:=by simpa using (Box.new w7 #[.int .i64 p.id,.int .i64 p.typ,.slice af p.src.length cf,.slice av p.vals.length cv] 83)
       have HI_:=(HI.out.alloc (.cells #[.int .i64 p.id,.int .i64 p.typ,.slice af p.src.length cf,.slice av p.vals.length cv] 83))
       have HW_:Below w.heap.size w (w7.alloc (.cells #[.int .i64 p.id,.int .i64 p.typ,.slice af p.src.length cf,.slice av p.vals.length cv] 83)):=(HW.out.alloc (by first | exact Nat.le_refl _ | exact HW.out.size | (simp only [World.size_alloc,World.size_setCell];have:=HW.out.size;omega)) _)
       clear lB5 cB5 fB5
       clear B5 HI HW
       generalize (w7.alloc (.cells #[.int .i64 p.id,.int .i64 p.typ,.slice af p.src.length cf,.slice av p.vals.length cv] 83))=w8 at *
       have B5:=hd B5_
       clear B5_
       have B7:=hd B7_
       clear B7_
       have HI:=hd HI_
       clear HI_
       have HW:=hd HW_
       clear HW_
       obtain ⟨lB5,cB5,fB5⟩:=B5.out
       obtain ⟨lB7,cB7,fB7⟩:=B7.out
       clear m0 m1 m2 m3
       go_wp2_with (at_mapUpdate;refine wpList_put (q:=.i64) (b:=bm) (mm:=defM (E0 ++ phiN c x.phis j1)) (y:=p.id) rfl _ _ _ _ (.inl rfl) Tryz.underlying99 Tryz.underlying3 rfl HI.out rfl ?_;intro w9 hm2 hz2 ht2;have HP:=hd hm2;have HTT:=hd ht2;clear hm2 hz2 ht2)
       go_roundw
       case rel=>exact ⟨j1+1,hlt1,by go_num,by rw [HSP.out];exact HP.out,HWT.out _ _ HW.out HTT.out,B5.out.turn HTT.out (by simp;have:=HBW.out;omega)⟩
       case measure=>simp [intOf];omega
      ·obtain rfl:j1=pl:=by omega
       obtain ⟨E1,hE1⟩ : ∃ E1,E1=E0 ++ phiN c x.phis j1:=⟨_,rfl⟩
       rw [<-hE1] at HI
       have HE1:=hd hE1
       clear hE1
       go_wp2_with fail
       go_loopw [46] (fun i wr => ∃ j2:Nat,j2 <= cl/\i = .int .i64 j2/\IMap wr bm (defM (E1 ++ codN c x.code j2))/\Below w.heap.size w wr) (fun i _=>cl - (intOf i).toNat)
       case atStart=>exact ⟨0,Nat.zero_le _,rfl,by simpa [codN] using HI.out,HW.out⟩
       case round =>
        obtain ⟨j2,hj2,rfl,hI,hW⟩:=hrel
        clear lB5 cB5 fB5 B5
        replace HI:=hd hI
        replace HW:=hd hW
        clear hI hW
        generalize wr=w11 at *
        by_cases hlt3:j2 < cl
        ·obtain ⟨rfl,hbp⟩:=HCA2.out (by omega)
         obtain ⟨y,hky⟩ : ∃ y,x.code[j2]? = some y:=⟨_,List.getElem?_eq_getElem (by have:=HCL.out;omega)⟩
         obtain ⟨aa,ca,hP⟩:=HCX2.out j2 y hky
         obtain ⟨m0,m1,m2,m3,r1,r2,r3,r4⟩:=hP.below HW.out hbp
         have HSC:=hd (codN_succ (b:=c) hky)
         clear r1 r2 r3 r4 hP hky
         go_upto_region 18 with (fail)
         have B8_:Box (w11.alloc (.cells #[.int .i64 y.op,.int .i64 y.id,.slice aa y.args.length ca,.int .i64 y.n] 87)) (w11.heap.size) #[.int .i64 y.op,.int .i64 y.id,.slice aa y.args.length ca,.int .i64 y.n]:=by simpa using (Box.new w11 #[.int .i64 y.op,.int .i64 y.id,.slice aa y.args.length ca,.int .i64 y.n] 87)
         have HI_:=(HI.out.alloc (.cells #[.int .i64 y.op,.int .i64 y.id,.slice aa y.args.length ca,.int .i64 y.n] 87))
         have HW_:Below w.heap.size w (w11.alloc (.cells #[.int .i64 y.op,.int .i64 y.id,.slice aa y.args.length ca,.int .i64 y.n] 87)):=(HW.out.alloc (by first | exact Nat.le_refl _ | exact HW.out.size | (simp only [World.size_alloc,World.size_setCell];have:=HW.out.size;omega)) _)
         clear HI HW
         generalize (w11.alloc (.cells #[.int .i64 y.op,.int .i64 y.id,.slice aa y.args.length ca,.int .i64 y.n] 87))=w12 at *
         have B8:=hd B8_
         clear B8_
         have HI:=hd HI_
         clear HI_
         have HW:=hd HW_
         clear HW_
         obtain ⟨lB8,cB8,fB8⟩:=B8.out
         clear m0 m1 m2 m3
         by_cases hid:0 <= y.id
         ·have HSD:Hid (defM (E1 ++ codN c x.code (j2+1))=mput (defM (E1 ++ codN c x.code j2)) y.id (.agg #[.int .i64 c,.int .i64 j2])):=hd (by rw [HSC.out,if_pos hid, <-List.append_assoc,defM_snoc];rfl)
          go_wp2_with (at_mapUpdate;refine wpList_put (q:=.i64) (b:=bm) (mm:=defM (E1 ++ codN c x.code j2)) (y:=y.id) rfl _ _ _ _ (.inl rfl) Tryz.underlying99 Tryz.underlying3 rfl HI.out rfl ?_;intro w13 hm2 hz2 ht2;have HP:=hd hm2;have HTT:=hd ht2;clear hm2 hz2 ht2)
          go_roundw
          case rel=>exact ⟨j2+1,hlt3,by go_num,by rw [HSD.out];exact HP.out,HWT.out _ _ HW.out HTT.out⟩
          case measure=>simp [intOf];omega
         ·have HSD:Hid (defM (E1 ++ codN c x.code (j2+1))=defM (E1 ++ codN c x.code j2)):=hd (by rw [HSC.out,if_neg hid,List.append_nil])
          go_wp2
          go_roundw
          case rel=>exact ⟨j2+1,hlt3,by go_num,by rw [HSD.out];exact HI.out,HW.out⟩
          case measure=>simp [intOf];omega
        ·obtain rfl:j2=cl:=by omega
         have HSD:Hid (defM (parN j ++ blkN f (c+1))=defM (E1 ++ codN c x.code j2)):=hd (by rw [HSN.out,HE1.out,HE0.out,HPL.out,HCL.out];simp [entB])
         go_wp2
         go_roundw
         case rel=>exact ⟨c+1,hltb,by go_num,by rw [HSD.out];exact HI.out,HW.out⟩
         case measure=>simp [intOf];omega
    ·obtain rfl:c=nb:=by omega
     have HIE:Hid (IMap wb bm (defM (entF f))):=hd (by have h9:=HI.out;rw [HNP.out,HNB.out] at h9;exact h9)
     go_wp2
     go_ret
     exact ⟨bm,rfl,HIE.out,HBM.out.1,HW.out⟩
end Go.Proofs.YtgmhnepmkaonaaaGreat
