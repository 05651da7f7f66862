/- Part 36. -/
import Derived.OwnWalk
import Derived.Test.YtgmhnepmkaonaaaGreatQA35
import Derived.Test.YtgmhnepmkaonaaaGreatQA31
namespace Go.Proofs.YtgmhnepmkaonaaaGreat
set_option linter.unusedSimpArgs false
set_option linter.unusedVariables false
open Go.RowKit
theorem pre_all {α : Type} (g:Nat -> List α) (n:Nat) (h:∀ i,i < n -> g i <+: g (i+1)):∀ k i,i+k=n -> g i <+: g n:=by
 intro k
 induction k with
 | zero=>intro i e;rw [<-e,Nat.add_zero];exact List.prefix_rfl
 | succ k ih=>intro i e;exact (h i (by omega)).trans (ih (i+1) (by omega))
theorem phiN_pre (b:Nat) (ps:List PhiD) {i:Nat} (h:i <= ps.length):phiN b ps i <+: phiN b ps ps.length :=
 pre_all (phiN b ps) ps.length (fun j hj=>by rw [phiN_succ (List.getElem?_eq_getElem hj)];exact List.prefix_append _ _) (ps.length - i) i (by omega)
theorem codN_pre (b:Nat) (xs:List InstrD) {i:Nat} (h:i <= xs.length):codN b xs i <+: codN b xs xs.length :=
 pre_all (codN b xs) xs.length (fun j hj=>by rw [codN_succ (List.getElem?_eq_getElem hj)];exact List.prefix_append _ _) (xs.length - i) i (by omega)
theorem blkN_pre (f:FuncD) {c:Nat} (h:c <= f.blocks.length):blkN f c <+: blkN f f.blocks.length :=
 pre_all (blkN f) f.blocks.length (fun j hj=>by rw [blkN_succ (List.getElem?_eq_getElem hj)];exact List.prefix_append _ _) (f.blocks.length - c) c (by omega)
theorem entF_pre {f:FuncD} {c:Nat} {x:BlockD} (h:f.blocks[c]? = some x):parN f.params.length ++ (blkN f c ++ entB c x) <+: entF f:=by
 unfold entF
 rw [List.prefix_append_right_inj, <-blkN_succ h]
 exact blkN_pre f (List.getElem?_eq_some_iff.1 h).1
def NoE (id:Int) (l:List (Int × Int × Int)):Prop := ∀ e ∈ l,e.1 ≠ id
theorem NoE.find {id:Int} {l:List (Int × Int × Int)} (h:NoE id l):(l.find? fun e=>e.1 == id)=none:=by
 rw [List.find?_eq_none];intro x hx;simpa using h x hx
theorem NoE.found {id:Int} {l L:List (Int × Int × Int)} {e:Int × Int × Int} (h:NoE id l) (he:e.1=id) (hp:l ++ [e] <+: L):(L.find? fun e=>e.1 == id)=some e:=by
 obtain ⟨r,rfl⟩:=hp
 rw [List.append_assoc,List.find?_append,h.find,Option.none_or]
 simp [List.find?_cons,he]
theorem NoE.append {id:Int} {l m:List (Int × Int × Int)} (h:NoE id l) (k:NoE id m):NoE id (l ++ m):=fun e he=>by
 rcases List.mem_append.1 he with he | he
 ·exact h e he
 ·exact k e he
theorem parN_no {n:Nat} {id:Int} (h:¬ (0 <= id/\id < (n:Int))):NoE id (parN n):=fun e he hid=>by
 unfold parN at he
 rw [List.mem_map] at he
 obtain ⟨j,hj,rfl⟩:=he
 have:=List.mem_range.1 hj
 simp at hid
 omega
theorem parN_found {n:Nat} {id:Int} (h0:0 <= id) (h1:id < (n:Int)) (r:List (Int × Int × Int)):((parN n ++ r).find? fun e=>e.1 == id)=some (id,0, -1):=by
 obtain ⟨k,rfl⟩ : ∃ k:Nat,id=(k:Int):=⟨id.toNat,by omega⟩
 have hk:k < n:=by omega
 refine (parN_no (n:=k) (by omega)).found (e:=((k:Int),0, -1)) rfl ?_
 rw [<-parN_succ]
 have:=pre_all parN n (fun i _=>by rw [parN_succ];exact List.prefix_append _ _) (n - (k+1)) (k+1) (by omega)
 exact this.trans (List.prefix_append _ _)
def DefIs (f:FuncD) (id b at_:Int) (ok:Bool):Prop :=
 (∃ e,((entF f).find? fun e=>e.1 == id)=some e/\b=e.2.1/\at_=e.2.2/\ok=true) \/ (((entF f).find? fun e=>e.1 == id)=none/\b=0/\at_=0/\ok=false)
def RDefR (f:FuncD) (id:Int) (w:World) (e:Ending) (w' : World):Prop := ∃ (b at_:Int) (ok:Bool),e = .returned (.tuple #[.int .i64 b,.int .i64 at_,.bool ok])/\DefIs f id b at_ ok/\Below w.heap.size w w'
set_option maxHeartbeats 25600000 in
set_option maxRecDepth 100000 in
theorem refDef {w:World} {v:Value} {f:FuncD} {id:Int} (hv:FuncV w v f):Calls Tryz.prog 71 #[v,.int .i64 id] w (RDefR f id w):=by
 obtain ⟨ap,cp,ab,cb,rfl,hp,ha,hc,hB⟩:=hv.form
 have hpl:=hp.le
 obtain ⟨a2,c2,bb,bo,hbe,hbc,hbm,hbl,hba,hbx⟩:=blocks_parts hB
 cases hbe
 obtain ⟨np,hnp⟩ : ∃ np,np=f.params.length:=⟨_,rfl⟩
 obtain ⟨nb,hnb⟩ : ∃ nb,nb=f.blocks.length:=⟨_,rfl⟩
 rw [<-hnp] at hpl ⊢
 rw [<-hnb] at hbc hba hbl ⊢
 have HNB:=hd hnb
 have HNP:=hd hnp
 have HBA:=hd hba
 have HBX:=hd hbx
 clear hp ha hc hB hv hbx hnp hnb hba
 generalize f.arrays=ar at *
 generalize f.cells=ce at *
 go_enter Tryz.func71,Tryz.ntmps71
 go_upto_region 1 with (fail)
 have B1:Hid (Box (w.alloc (.cells #[.slice ap np cp,.int .i64 ar,.int .i64 ce,.slice ab nb cb] 25)) (w.heap.size) #[.slice ap np cp,.int .i64 ar,.int .i64 ce,.slice ab nb cb]):=hd (by simpa using (Box.new w #[.slice ap np cp,.int .i64 ar,.int .i64 ce,.slice ab nb cb] 25))
 have HW:Hid (Below w.heap.size w (w.alloc (.cells #[.slice ap np cp,.int .i64 ar,.int .i64 ce,.slice ab nb cb] 25))):=hd ((Below.refl _ _).alloc (Nat.le_refl _) _)
 generalize (w.alloc (.cells #[.slice ap np cp,.int .i64 ar,.int .i64 ce,.slice ab nb cb] 25))=wv at *
 obtain ⟨lB1,cB1,fB1⟩:=B1.out
 by_cases hpar:0 <= id/\id < (np:Int)
 ·obtain ⟨h0,h1⟩:=hpar
  have HD:Hid (DefIs f id 0 (-1) true):=hd (.inl ⟨(id,0, -1),by unfold entF;rw [<-HNP.out];exact parN_found h0 h1 _,rfl,rfl,rfl⟩)
  go_wp2
  go_ret3
  exact ⟨0, -1,true,rfl,HD.out,HW.out⟩
 ·have HN0:Hid (NoE id (parN f.params.length ++ blkN f 0)):=hd (by
   rw [<-HNP.out]
   exact (parN_no hpar).append (by intro e he;simp [blkN] at he))
  have hcase:id < 0 \/ (0 <= id/\(np:Int) <= id):=by omega
  clear hpar
  rcases hcase with hid0 | ⟨hid0,hid1⟩
  ·have hpos:¬ 0 <= id:=by omega
   clear hid0
   go_wp2_with fail
   go_loopw [7] (fun iv wr => ∃ c:Nat,c <= nb/\iv = .int .i64 c/\NoE id (parN f.params.length ++ blkN f c)/\wr=wv) (fun iv _=>nb - (intOf iv).toNat)
   case atStart=>exact ⟨0,Nat.zero_le _,rfl,HN0.out,rfl⟩
   case round =>
    obtain ⟨c,hc,rfl,hn,rfl⟩:=hrel
    have HN:=hd hn
    clear hn
    by_cases hltb:c < nb
    ·obtain ⟨rfl,hbw⟩:=HBA.out (by omega)
     obtain ⟨x,hjx⟩ : ∃ x,f.blocks[c]? = some x:=⟨_,List.getElem?_eq_getElem (by have:=HNB.out;omega)⟩
     obtain ⟨api,aii,ati,cpi,cii,cti,hC⟩:=HBX.out c x hjx
     have HSN:=hd (blkN_succ hjx)
     have HPRE:=hd (entF_pre hjx)
     have hB1:=hC.phis
     have hB2:=hC.code
     obtain ⟨pl,hpl2⟩ : ∃ pl,pl=x.phis.length:=⟨_,rfl⟩
     obtain ⟨cl,hcl⟩ : ∃ cl,cl=x.code.length:=⟨_,rfl⟩
     obtain ⟨ac,capc,bcd,ocd,hce1,hcc,hcm,hcl16,hca,hcx⟩:=code_parts hB2
     obtain ⟨apx,capp,bph,oph,hpe1,hppc,hppm,hpl16,hpa2,hpx2⟩:=phis_parts hB1
     obtain ⟨k0,k1,k2,k3,k4,k5,q1,q2,q3,q4,q5,q6⟩:=hC.below HW.out hbw
     rw [<-hpl2] at hpe1 hppc hpl16 hpa2 k0
     rw [<-hcl] at hce1 hcc hcl16 hca k1
     cases hpe1
     cases hce1
     have HPL:=hd hpl2
     have HCL:=hd hcl
     have HPA2:=hd hpa2
     have HPX2:=hd hpx2
     have HCA2:=hd hca
     have HCX2:=hd hcx
     clear hpl2 hcl hpa2 hpx2 hca hcx q1 q2 q3 q4 q5 q6 hC hB1 hB2 hjx k2 k3 k4 k5
     go_wp2_with fail
     go_loopw [8] (fun iv wr' => ∃ i:Nat,i <= pl/\iv = .int .i64 i/\NoE id (parN f.params.length ++ (blkN f c ++ phiN c x.phis i))/\wr' = wr) (fun iv _=>pl - (intOf iv).toNat)
     case atStart=>exact ⟨0,Nat.zero_le _,rfl,by simpa [phiN] using HN.out,rfl⟩
     case round =>
      obtain ⟨i,hi,rfl,hn,rfl⟩:=hrel
      have HN2:=hd hn
      clear hn
      by_cases hlt1:i < pl
      ·obtain ⟨rfl,hbp⟩:=HPA2.out (by omega)
       obtain ⟨p,hkp⟩ : ∃ p,x.phis[i]? = some p:=⟨_,List.getElem?_eq_getElem (by have:=HPL.out;omega)⟩
       obtain ⟨af,av,cf,cv,hP⟩:=HPX2.out i p hkp
       obtain ⟨m0,m1,m2,m3,r1,r2,r3,r4⟩:=hP.below HW.out hbp
       have HSP:=hd (phiN_succ (b:=c) hkp)
       have HPP:Hid (parN f.params.length ++ (blkN f c ++ phiN c x.phis (i+1)) <+: entF f):=hd (by
        refine List.IsPrefix.trans ?_ HPRE.out
        rw [List.prefix_append_right_inj,List.prefix_append_right_inj]
        unfold entB
        exact (phiN_pre c x.phis (by have:=HPL.out;omega)).trans (List.prefix_append _ _))
       clear m1 m2 m3 r1 r2 r3 r4 hP hkp
       by_cases hpid:p.id=id
       ·have HD:Hid (DefIs f id c (-1) true):=hd (.inl ⟨(p.id,(c:Int), -1),HN2.out.found hpid (by have h9:=HPP.out;rw [HSP.out] at h9;simpa [List.append_assoc] using h9),rfl,rfl,rfl⟩)
        have hq:(p.id == id)=true:=by simp [hpid]
        clear hpid
        go_wp2
        go_ret3
        exact ⟨c, -1,true,rfl,HD.out,HW.out⟩
       ·have HN3:Hid (NoE id (parN f.params.length ++ (blkN f c ++ phiN c x.phis (i+1)))):=hd (by
         rw [HSP.out, <-List.append_assoc, <-List.append_assoc]
         refine NoE.append (by rw [List.append_assoc];exact HN2.out) ?_
         intro e he
         simp at he
         subst he
         exact hpid)
        have hq:(p.id == id)=false:=by simp [hpid]
        clear hpid
        go_wp2
        go_roundw
        case rel=>exact ⟨i+1,hlt1,by go_num,HN3.out,by first | rfl | trivial⟩
        case measure=>simp [intOf];omega
      ·have hip:i=pl:=by omega
       have HN3:Hid (NoE id (parN f.params.length ++ (blkN f c ++ (phiN c x.phis x.phis.length ++ codN c x.code 0)))):=hd (by
        have h9:=HN2.out
        rw [hip,HPL.out] at h9
        simpa [codN] using h9)
       clear hip
       go_wp2_with fail
       go_loopw [9] (fun iv wr'' => ∃ k:Nat,k <= cl/\iv = .int .i64 k/\NoE id (parN f.params.length ++ (blkN f c ++ (phiN c x.phis x.phis.length ++ codN c x.code k)))/\wr'' = wr) (fun iv _=>cl - (intOf iv).toNat)
       case atStart=>exact ⟨0,Nat.zero_le _,rfl,HN3.out,rfl⟩
       case round =>
        obtain ⟨k,hk,rfl,hn,rfl⟩:=hrel
        have HN4:=hd hn
        clear hn
        by_cases hlt3:k < cl
        ·obtain ⟨rfl,hbp⟩:=HCA2.out (by omega)
         obtain ⟨y,hky⟩ : ∃ y,x.code[k]? = some y:=⟨_,List.getElem?_eq_getElem (by have:=HCL.out;omega)⟩
         obtain ⟨aa,ca,hP⟩:=HCX2.out k y hky
         obtain ⟨m0,m1,m2,m3,r1,r2,r3,r4⟩:=hP.below HW.out hbp
         have HSC:=hd (codN_succ (b:=c) hky)
         have HPP:Hid (parN f.params.length ++ (blkN f c ++ (phiN c x.phis x.phis.length ++ codN c x.code (k+1))) <+: entF f):=hd (by
          refine List.IsPrefix.trans ?_ HPRE.out
          rw [List.prefix_append_right_inj,List.prefix_append_right_inj]
          unfold entB
          rw [List.prefix_append_right_inj]
          exact codN_pre c x.code (by have:=HCL.out;omega))
         clear m0 m2 m3 r1 r2 r3 r4 hP hky
         by_cases hpid:y.id=id
         ·have hq:(y.id == id)=true:=by simp [hpid]
          have HN5:Hid (NoE id (parN f.params.length ++ (blkN f c ++ (phiN c x.phis x.phis.length ++ codN c x.code (k+1))))):=hd (by
           rw [HSC.out,if_neg (by rw [hpid];omega),List.append_nil];exact HN4.out)
          clear hpid
          go_wp2
          go_roundw
          case rel=>exact ⟨k+1,hlt3,by go_num,HN5.out,by first | rfl | trivial⟩
          case measure=>simp [intOf];omega
         ·have HN5:Hid (NoE id (parN f.params.length ++ (blkN f c ++ (phiN c x.phis x.phis.length ++ codN c x.code (k+1))))):=hd (by
           rw [HSC.out]
           by_cases h8:0 <= y.id
           ·rw [if_pos h8, <-List.append_assoc, <-List.append_assoc, <-List.append_assoc]
            refine NoE.append (by rw [List.append_assoc,List.append_assoc];exact HN4.out) ?_
            intro e he
            simp at he
            subst he
            exact hpid
           ·rw [if_neg h8,List.append_nil];exact HN4.out)
          have hq:(y.id == id)=false:=by simp [hpid]
          clear hpid
          go_wp2
          go_roundw
          case rel=>exact ⟨k+1,hlt3,by go_num,HN5.out,by first | rfl | trivial⟩
          case measure=>simp [intOf];omega
        ·have hkc:k=cl:=by omega
         have HN5:Hid (NoE id (parN f.params.length ++ blkN f (c+1))):=hd (by
          have h9:=HN4.out
          rw [hkc,HCL.out] at h9
          rw [HSN.out];exact h9)
         clear hkc
         go_wp2
         go_roundw
         case rel=>exact ⟨c+1,hltb,by go_num,HN5.out,by first | rfl | trivial⟩
         case measure=>simp [intOf];omega
    ·have hcn:c=nb:=by omega
     have HD:Hid (DefIs f id 0 0 false):=hd (.inr ⟨NoE.find (by have h9:=HN.out;rw [hcn,HNB.out] at h9;exact h9),rfl,rfl,rfl⟩)
     clear hcn
     go_wp2
     go_ret3
     exact ⟨0,0,false,rfl,HD.out,HW.out⟩
  ·have hpos:0 <= id:=hid0
   have hnl:¬ id < (np:Int):=by omega
   clear hid0 hid1
   go_wp2_with fail
   go_loopw [7] (fun iv wr => ∃ c:Nat,c <= nb/\iv = .int .i64 c/\NoE id (parN f.params.length ++ blkN f c)/\wr=wv) (fun iv _=>nb - (intOf iv).toNat)
   case atStart=>exact ⟨0,Nat.zero_le _,rfl,HN0.out,rfl⟩
   case round =>
    obtain ⟨c,hc,rfl,hn,rfl⟩:=hrel
    have HN:=hd hn
    clear hn
    by_cases hltb:c < nb
    ·obtain ⟨rfl,hbw⟩:=HBA.out (by omega)
     obtain ⟨x,hjx⟩ : ∃ x,f.blocks[c]? = some x:=⟨_,List.getElem?_eq_getElem (by have:=HNB.out;omega)⟩
     obtain ⟨api,aii,ati,cpi,cii,cti,hC⟩:=HBX.out c x hjx
     have HSN:=hd (blkN_succ hjx)
     have HPRE:=hd (entF_pre hjx)
     have hB1:=hC.phis
     have hB2:=hC.code
     obtain ⟨pl,hpl2⟩ : ∃ pl,pl=x.phis.length:=⟨_,rfl⟩
     obtain ⟨cl,hcl⟩ : ∃ cl,cl=x.code.length:=⟨_,rfl⟩
     obtain ⟨ac,capc,bcd,ocd,hce1,hcc,hcm,hcl16,hca,hcx⟩:=code_parts hB2
     obtain ⟨apx,capp,bph,oph,hpe1,hppc,hppm,hpl16,hpa2,hpx2⟩:=phis_parts hB1
     obtain ⟨k0,k1,k2,k3,k4,k5,q1,q2,q3,q4,q5,q6⟩:=hC.below HW.out hbw
     rw [<-hpl2] at hpe1 hppc hpl16 hpa2 k0
     rw [<-hcl] at hce1 hcc hcl16 hca k1
     cases hpe1
     cases hce1
     have HPL:=hd hpl2
     have HCL:=hd hcl
     have HPA2:=hd hpa2
     have HPX2:=hd hpx2
     have HCA2:=hd hca
     have HCX2:=hd hcx
     clear hpl2 hcl hpa2 hpx2 hca hcx q1 q2 q3 q4 q5 q6 hC hB1 hB2 hjx k2 k3 k4 k5
     go_wp2_with fail
     go_loopw [8] (fun iv wr' => ∃ i:Nat,i <= pl/\iv = .int .i64 i/\NoE id (parN f.params.length ++ (blkN f c ++ phiN c x.phis i))/\wr' = wr) (fun iv _=>pl - (intOf iv).toNat)
     case atStart=>exact ⟨0,Nat.zero_le _,rfl,by simpa [phiN] using HN.out,rfl⟩
     case round =>
      obtain ⟨i,hi,rfl,hn,rfl⟩:=hrel
      have HN2:=hd hn
      clear hn
      by_cases hlt1:i < pl
      ·obtain ⟨rfl,hbp⟩:=HPA2.out (by omega)
       obtain ⟨p,hkp⟩ : ∃ p,x.phis[i]? = some p:=⟨_,List.getElem?_eq_getElem (by have:=HPL.out;omega)⟩
       obtain ⟨af,av,cf,cv,hP⟩:=HPX2.out i p hkp
       obtain ⟨m0,m1,m2,m3,r1,r2,r3,r4⟩:=hP.below HW.out hbp
       have HSP:=hd (phiN_succ (b:=c) hkp)
       have HPP:Hid (parN f.params.length ++ (blkN f c ++ phiN c x.phis (i+1)) <+: entF f):=hd (by
        refine List.IsPrefix.trans ?_ HPRE.out
        rw [List.prefix_append_right_inj,List.prefix_append_right_inj]
        unfold entB
        exact (phiN_pre c x.phis (by have:=HPL.out;omega)).trans (List.prefix_append _ _))
       clear m1 m2 m3 r1 r2 r3 r4 hP hkp
       by_cases hpid:p.id=id
       ·have HD:Hid (DefIs f id c (-1) true):=hd (.inl ⟨(p.id,(c:Int), -1),HN2.out.found hpid (by have h9:=HPP.out;rw [HSP.out] at h9;simpa [List.append_assoc] using h9),rfl,rfl,rfl⟩)
        have hq:(p.id == id)=true:=by simp [hpid]
        clear hpid
        go_wp2
        go_ret3
        exact ⟨c, -1,true,rfl,HD.out,HW.out⟩
       ·have HN3:Hid (NoE id (parN f.params.length ++ (blkN f c ++ phiN c x.phis (i+1)))):=hd (by
         rw [HSP.out, <-List.append_assoc, <-List.append_assoc]
         refine NoE.append (by rw [List.append_assoc];exact HN2.out) ?_
         intro e he
         simp at he
         subst he
         exact hpid)
        have hq:(p.id == id)=false:=by simp [hpid]
        clear hpid
        go_wp2
        go_roundw
        case rel=>exact ⟨i+1,hlt1,by go_num,HN3.out,by first | rfl | trivial⟩
        case measure=>simp [intOf];omega
      ·have hip:i=pl:=by omega
       have HN3:Hid (NoE id (parN f.params.length ++ (blkN f c ++ (phiN c x.phis x.phis.length ++ codN c x.code 0)))):=hd (by
        have h9:=HN2.out
        rw [hip,HPL.out] at h9
        simpa [codN] using h9)
       clear hip
       go_wp2_with fail
       go_loopw [9] (fun iv wr'' => ∃ k:Nat,k <= cl/\iv = .int .i64 k/\NoE id (parN f.params.length ++ (blkN f c ++ (phiN c x.phis x.phis.length ++ codN c x.code k)))/\wr'' = wr) (fun iv _=>cl - (intOf iv).toNat)
       case atStart=>exact ⟨0,Nat.zero_le _,rfl,HN3.out,rfl⟩
       case round =>
        obtain ⟨k,hk,rfl,hn,rfl⟩:=hrel
        have HN4:=hd hn
        clear hn
        by_cases hlt3:k < cl
        ·obtain ⟨rfl,hbp⟩:=HCA2.out (by omega)
         obtain ⟨y,hky⟩ : ∃ y,x.code[k]? = some y:=⟨_,List.getElem?_eq_getElem (by have:=HCL.out;omega)⟩
         obtain ⟨aa,ca,hP⟩:=HCX2.out k y hky
         obtain ⟨m0,m1,m2,m3,r1,r2,r3,r4⟩:=hP.below HW.out hbp
         have HSC:=hd (codN_succ (b:=c) hky)
         have HPP:Hid (parN f.params.length ++ (blkN f c ++ (phiN c x.phis x.phis.length ++ codN c x.code (k+1))) <+: entF f):=hd (by
          refine List.IsPrefix.trans ?_ HPRE.out
          rw [List.prefix_append_right_inj,List.prefix_append_right_inj]
          unfold entB
          rw [List.prefix_append_right_inj]
          exact codN_pre c x.code (by have:=HCL.out;omega))
         clear m0 m2 m3 r1 r2 r3 r4 hP hky
         by_cases hpid:y.id=id
         ·have hq:(y.id == id)=true:=by simp [hpid]
          have HD:Hid (DefIs f id c k true):=hd (.inl ⟨(y.id,(c:Int),(k:Int)),HN4.out.found hpid (by have h9:=HPP.out;rw [HSC.out,if_pos (by rw [hpid];exact hpos)] at h9;simpa [List.append_assoc] using h9),rfl,rfl,rfl⟩)
          clear hpid
          go_wp2
          go_ret3
          exact ⟨c,k,true,rfl,HD.out,HW.out⟩
         ·have HN5:Hid (NoE id (parN f.params.length ++ (blkN f c ++ (phiN c x.phis x.phis.length ++ codN c x.code (k+1))))):=hd (by
           rw [HSC.out]
           by_cases h8:0 <= y.id
           ·rw [if_pos h8, <-List.append_assoc, <-List.append_assoc, <-List.append_assoc]
            refine NoE.append (by rw [List.append_assoc,List.append_assoc];exact HN4.out) ?_
            intro e he
            simp at he
            subst he
            exact hpid
           ·rw [if_neg h8,List.append_nil];exact HN4.out)
          have hq:(y.id == id)=false:=by simp [hpid]
          clear hpid
          go_wp2
          go_roundw
          case rel=>exact ⟨k+1,hlt3,by go_num,HN5.out,by first | rfl | trivial⟩
          case measure=>simp [intOf];omega
        ·have hkc:k=cl:=by omega
         have HN5:Hid (NoE id (parN f.params.length ++ blkN f (c+1))):=hd (by
          have h9:=HN4.out
          rw [hkc,HCL.out] at h9
          rw [HSN.out];exact h9)
         clear hkc
         go_wp2
         go_roundw
         case rel=>exact ⟨c+1,hltb,by go_num,HN5.out,by first | rfl | trivial⟩
         case measure=>simp [intOf];omega
    ·have hcn:c=nb:=by omega
     have HD:Hid (DefIs f id 0 0 false):=hd (.inr ⟨NoE.find (by have h9:=HN.out;rw [hcn,HNB.out] at h9;exact h9),rfl,rfl,rfl⟩)
     clear hcn
     go_wp2
     go_ret3
     exact ⟨0,0,false,rfl,HD.out,HW.out⟩
theorem codN_keys (b:Nat) (xs:List InstrD) (h:∀ y ∈ xs,(0 <= y.id ↔ (shp0 y.op).result ≠ 0)):∀ k,k <= xs.length -> (codN b xs k).map (·.1)=((xs.take k).filter fun y=>(shp0 y.op).result != 0).map (·.id):=by
 intro k
 induction k with
 | zero=>intro _;simp [codN]
 | succ k ih =>
  intro hk
  obtain ⟨y,hy⟩ : ∃ y,xs[k]? = some y:=⟨_,List.getElem?_eq_getElem (by omega)⟩
  rw [codN_succ hy,take_snoc xs k y hy,List.map_append,List.filter_append,List.map_append,ih (by omega)]
  congr 1
  have h1:=h y (List.mem_of_getElem? hy)
  by_cases h2:0 <= y.id
  ·have h3:=h1.1 h2
   simp [h2,h3]
  ·have h3:(shp0 y.op).result=0:=Classical.byContradiction fun h4=>h2 (h1.2 h4)
   simp [h2,h3]
theorem entB_keys (b:Nat) (x:BlockD) (h:∀ y ∈ x.code,(0 <= y.id ↔ (shp0 y.op).result ≠ 0)):(entB b x).map (·.1)=(defsB x).map (·.1):=by
 unfold entB defsB
 rw [List.map_append,List.map_append,codN_keys b x.code h _ (Nat.le_refl _)]
 simp [phiN,List.map_map,Function.comp_def]
theorem blkN_keys (f:FuncD) (h:∀ x ∈ f.blocks, ∀ y ∈ x.code,(0 <= y.id ↔ (shp0 y.op).result ≠ 0)):∀ c,c <= f.blocks.length -> (blkN f c).map (·.1)=((f.blocks.take c).flatMap defsB).map (·.1):=by
 intro c
 induction c with
 | zero=>intro _;simp [blkN]
 | succ c ih =>
  intro hc
  obtain ⟨x,hx⟩ : ∃ x,f.blocks[c]? = some x:=⟨_,List.getElem?_eq_getElem (by omega)⟩
  rw [blkN_succ hx,take_snoc f.blocks c x hx,List.map_append,List.flatMap_append,List.map_append,ih (by omega),entB_keys c x (h x (List.mem_of_getElem? hx))]
  simp
theorem code_ids {f:FuncD} (h:checkF f=0):∀ x ∈ f.blocks, ∀ y ∈ x.code,(0 <= y.id ↔ (shp0 y.op).result ≠ 0):=by
 intro x hx y hy
 obtain ⟨h1,h2⟩:=check_fine h
 obtain ⟨b,hb⟩:=List.mem_iff_getElem?.1 hx
 constructor
 ·intro h0 hr
  unfold formB at h1
  simp only [Bool.and_eq_true,List.all_eq_true] at h1
  have h3:=h1.2 (x,b) (by rw [List.mem_zipIdx_iff_getElem?];exact hb)
  unfold blockOk at h3
  simp only [Bool.and_eq_true,List.all_eq_true] at h3
  have h4:=h3.1.2 y hy
  unfold instrOk at h4
  simp [hr] at h4
  omega
 ·intro hr
  unfold idsF idsB at h2
  rw [Bool.and_eq_true,List.all_eq_true] at h2
  have h3:=h2.2 (y.id,(shp0 y.op).result) (by
   unfold defsF
   rw [List.mem_flatMap]
   refine ⟨x,hx, ?_⟩
   unfold defsB
   rw [List.mem_append]
   right
   rw [List.mem_map]
   exact ⟨y,List.mem_filter.2 ⟨hy,by simpa using hr⟩,rfl⟩)
  simp at h3
  omega
theorem ent_keys {f:FuncD} (h:checkF f=0):(entF f).map (·.1)=(valsF f).map (·.1):=by
 unfold entF valsF
 rw [List.map_append,List.map_append,parT_keys,blkN_keys f (code_ids h) _ (Nat.le_refl _),List.take_length]
 congr 1
 simp [parN,List.map_map,Function.comp_def]
theorem ent_nodup {f:FuncD} (h:checkF f=0):((entF f).map (·.1)).Nodup:=by
 rw [ent_keys h]
 have h2:=(check_fine h).2
 unfold idsF idsB at h2
 rw [Bool.and_eq_true,decide_eq_true_eq] at h2
 exact h2.1
theorem def_get {f:FuncD} (h:checkF f=0) (id:Int):mget (defM (entF f)) id=((entF f).find? fun e=>e.1 == id).map defV:=defM_get id _ _ rfl (ent_nodup h)
theorem zeroDef (w:World):(zeroValue 196).run Tryz.prog w = .ok (.agg #[.int .i64 0,.int .i64 0]) w:=by kernel_rfl
section
variable {P:Program} {w:World}
theorem IMap.lookup0 {t k e:TypeId} {q:IntKind} {b:Nat} {m:List (Int × Value)} (h:IMap w b m) (ht:P.underlying t=some (.map k e)) (hk:P.underlying k=some (.int q)) {z:Value} (hz:(zeroValue e).run P w = .ok z w) (x:Int) :
  (Instr.lookup t (.map (some b)) (.int .i64 x) false).run P w = .ok ((mget m x).getD z) w:=by
 obtain ⟨es,c,hh,hm,_⟩:=h.ex
 have hf:=findKey_run (P:=P) (w:=w) hk x hm
 unfold Instr.lookup
 have hg:(Sem.getObj b Sem.pure:Sem Obj).run P w = .ok (.map es c) w:=by simp [Sem.run,hh]
 rw [mget_idx]
 simp only [Sem.run_bind,run_underlying ht,Result.andThen,getObj,hg,Sem.run_pure,checkKey_int hk,hf]
 cases hi:(m.findIdx? (fun p=>p.1 == x)) with
 | none=>simp [hz,Result.andThen,Sem.run_pure]
 | some j =>
  simp only [Option.bind_some]
  cases hj:m[j]? with
  | none=>simp [hz,Result.andThen,Sem.run_pure]
  | some p=>simp [Result.andThen,Sem.run_pure]
variable {ops:Array Oper} {rest:List Oper} {o:Oper} {a:Act} {Q:Exit -> Act -> World -> Prop}
theorem wpList_look0 (hg:o.guard=none) (m x:Operand) (t:TypeId) (hop:o.op=Op.lookup t m x false) {k e:TypeId} {q:IntKind} (ht:P.underlying t=some (.map k e)) (hk:P.underlying k=some (.int q)) {z:Value} (hz:(zeroValue e).run P w = .ok z w)
  {b:Nat} {mm:List (Int × Value)} (hm:a.eval m = .map (some b)) (h:IMap w b mm) {y:Int} (hx:a.eval x = .int .i64 y) (hK:wpList P ops Q rest (a.put o.dst ((mget mm y).getD z)) w):wpList P ops Q (o :: rest) a w:=by
 refine wpList_plain hg fun K' hK' => ?_
 unfold Oper.wp
 simp [execOp,hop,hm,hx,h.lookup0 ht hk hz y,Result.andThen]
 exact hK' _ _ hK
end
private theorem Since.alloc {w0 W:World} (h:Since w0 W) (o:Obj):Since w0 (W.alloc o):=h.later ((Below.refl _ _).alloc (Nat.le_refl _) o)
theorem entF_simplest:entF simplest=[(0,0,0)]:=by decide
end Go.Proofs.YtgmhnepmkaonaaaGreat
