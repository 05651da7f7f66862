/- Part 35. -/
import Derived.Test.YtagabiidbbhhmaaGreatEB27
namespace Go.Proofs.YtagabiidbbhhmaaGreat
set_option maxHeartbeats 25600000
set_option linter.all false
open Go.RowKit
theorem pP {α : Type} (g:Nat -> List α) (n:Nat) (h:∀ i,i < n -> g i <+: g (i+1)):∀ k i,i+k=n -> g i <+: g n:=by
 intro k
 induction k with
 | zero=>intro i e;rw [<-e,eK];exact List.prefix_rfl
 | succ k ih=>intro i e;exact (h i (by omega)).trans (ih (i+1) (by omega))
theorem tM (b:Nat) (ps:List PhiD) {i:Nat} (h:i <= ps.length):phiN b ps i <+: phiN b ps ps.length :=
 pP (phiN b ps) ps.length (fun j hj=>by rw [mS (aC hj)];exact dR _ _) (ps.length - i) i (by omega)
theorem tN (b:Nat) (xs:List InstrD) {i:Nat} (h:i <= xs.length):codN b xs i <+: codN b xs xs.length :=
 pP (codN b xs) xs.length (fun j hj=>by rw [lC (aC hj)];exact dR _ _) (xs.length - i) i (by omega)
theorem aA8 (f:FuncD) {c:Nat} (h:c <= f.blocks.length):blkN f c <+: blkN f f.blocks.length :=
 pP (blkN f) f.blocks.length (fun j hj=>by rw [kC (aC hj)];exact dR _ _) (f.blocks.length - c) c (by omega)
theorem tO {f:FuncD} {c:Nat} {x:BlockD} (h:f.blocks[c]? = some x):parN f.params.length ++ (blkN f c ++ entB c x) <+: entF f:=by
 unfold entF
 rw [bV, <-kC h]
 exact aA8 f (aD.1 h).1
def NoE (id:Int) (l:List (Int × Int × Int)):Prop := ∀ e ∈ l,e.1 ≠ id
theorem NoE.find {id:Int} {l:List (Int × Int × Int)} (h:NoE id l):(l.find? fun e=>e.1 == id)=none:=by
 rw [List.find?_eq_none];intro x hx;simpa using h x hx
theorem NoE.found {id:Int} {l L:List (Int × Int × Int)} {e:Int × Int × Int} (h:NoE id l) (he:e.1=id) (hp:l ++ [e] <+: L):(L.find? fun e=>e.1 == id)=some e:=by
 obtain ⟨r,rfl⟩:=hp
 rw [bN,List.find?_append,h.find,Option.none_or]
 simp [List.find?_cons,he]
theorem NoE.append {id:Int} {l m:List (Int × Int × Int)} (h:NoE id l) (k:NoE id m):NoE id (l ++ m):=fun e he=>by
 rcases aN.1 he with he | he
 ·exact h e he
 exact k e he
theorem xP {n:Nat} {id:Int} (h:¬ (0 <= id/\id < (n:Int))):NoE id (parN n):=fun e he hid=>by
 unfold parN at he
 rw [aX] at he
 obtain ⟨j,hj,rfl⟩:=he
 have:=cS.1 hj
 simp at hid
 omega
theorem uP {n:Nat} {id:Int} (h0:0 <= id) (h1:id < (n:Int)) (r:List (Int × Int × Int)):((parN n ++ r).find? fun e=>e.1 == id)=some (id,0, -1):=by
 obtain ⟨k,rfl⟩ : ∃ k:Nat,id=(k:Int):=⟨id.toNat,by omega⟩
 have hk:k < n:=by omega
 refine (xP (n:=k) (by omega)).found (e:=((k:Int),0, -1)) rfl ?_
 rw [<-oS]
 have:=pP parN n (fun i _=>by rw [oS];exact dR _ _) (n - (k+1)) (k+1) (by omega)
 exact this.trans (dR _ _)
def sG (f:FuncD) (id b at_:Int) (ok:Bool):Prop :=
 (∃ e,((entF f).find? fun e=>e.1 == id)=some e/\b=e.2.1/\at_=e.2.2/\ok=true) \/ (((entF f).find? fun e=>e.1 == id)=none/\b=0/\at_=0/\ok=false)
def aFY (f:FuncD) (id:Int) (w:World) (e:Ending) (w' : World):Prop := ∃ (b at_:Int) (ok:Bool),e = .returned (.tuple #[.int .i64 b,.int .i64 at_,.bool ok])/\sG f id b at_ ok/\Below w.heap.size w w'
set_option maxRecDepth 100000 in
theorem aET {w:World} {v:Value} {f:FuncD} {id:Int} (hv:fJ w v f):Calls Tryz.prog 78 #[v,.int .i64 id] w (aFY f id w):=by
 obtain ⟨ap,cp,ab,cb,rfl,hp,ha,hc,hB⟩:=hv.form
 have hpl:=hp.le
 obtain ⟨a2,c2,bb,bo,hbe,hbc,hbm,hbl,hba,hbx⟩:=eU hB
 cases hbe
 obtain ⟨np,hnp⟩ : ∃ np,np=f.params.length:=⟨_,rfl⟩
 obtain ⟨nb,hnb⟩ : ∃ nb,nb=f.blocks.length:=⟨_,rfl⟩
 rw [<-hnp] at hpl ⊢
 rw [<-hnb] at hbc hba hbl ⊢
 have HNB:=h! hnb
 have HNP:=h! hnp
 have HBA:=h! hba
 have HBX:=h! hbx
 clear hp ha hc hB hv hbx hnp hnb hba
 generalize f.arrays=ar at *
 generalize f.cells=ce at *
 go_enter Tryz.func78,Tryz.ntmps78
 go_upto_region 1 with (fail)
 have hA_:=(Below.refl w.heap.size w).alloc (aA _) (.cells #[.slice ap np cp,.int .i64 ar,.int .i64 ce,.slice ab nb cb] 25)
 have HW:=h! hA_
 clear hA_
 have B1:=h! (Box.new w #[.slice ap np cp,.int .i64 ar,.int .i64 ce,.slice ab nb cb] 25)
 generalize w.alloc (.cells #[.slice ap np cp,.int .i64 ar,.int .i64 ce,.slice ab nb cb] 25)=wv at *
 obtain ⟨lB1,cB1,fB1⟩:=B1.out
 by_cases hpar:0 <= id/\id < (np:Int)
 ·obtain ⟨h0,h1⟩:=hpar
  have HD:Hid (sG f id 0 (-1) true):=h! (.inl ⟨(id,0, -1),by unfold entF;rw [<-HNP.out];exact uP h0 h1 _,rfl,rfl,rfl⟩)
  go_wp2
  go_ret3
  exact ⟨0, -1,true,rfl,HD.out,HW.out⟩
 have HN0:Hid (NoE id (parN f.params.length ++ blkN f 0)):=h! (by
  rw [<-HNP.out]
  exact (xP hpar).append (by intro e he;simp [blkN] at he))
 have hcase:id < 0 \/ (0 <= id/\(np:Int) <= id):=by omega
 clear hpar
 rcases hcase with hid0 | ⟨hid0,hid1⟩
 ·have hpos:¬ 0 <= id:=by omega
  clear hid0
  go_wp2_with fail
  go_loopw [7] (fun iv wr => ∃ c:Nat,c <= nb/\iv = .int .i64 c/\NoE id (parN f.params.length ++ blkN f c)/\wr=wv) (fun iv _=>nb - (intOf iv).toNat)
  case atStart=>exact ⟨0,aJ _,rfl,HN0.out,rfl⟩
  obtain ⟨c,hc,rfl,hn,rfl⟩:=hrel
  have HN:=h! hn
  clear hn
  by_cases hltb:c < nb
  ·obtain ⟨rfl,hbw⟩:=HBA.out (by omega)
   obtain ⟨x,hjx⟩ : ∃ x,f.blocks[c]? = some x:=⟨_,aC (by have:=HNB.out;omega)⟩
   obtain ⟨api,aii,ati,cpi,cii,cti,hC⟩:=HBX.out c x hjx
   have HSN:=h! (kC hjx)
   have HPRE:=h! (tO hjx)
   have hB1:=hC.phis
   have hB2:=hC.code
   obtain ⟨pl,hpl2⟩ : ∃ pl,pl=x.phis.length:=⟨_,rfl⟩
   obtain ⟨cl,hcl⟩ : ∃ cl,cl=x.code.length:=⟨_,rfl⟩
   obtain ⟨ac,capc,bcd,ocd,hce1,hcc,hcm,hcl16,hca,hcx⟩:=fS hB2
   obtain ⟨apx,capp,bph,oph,hpe1,hppc,hppm,hpl16,hpa2,hpx2⟩:=fH hB1
   obtain ⟨k0,k1,k2,k3,k4,k5,q1,q2,q3,q4,q5,q6⟩:=hC.below HW.out hbw
   rw [<-hpl2] at hpe1 hppc hpl16 hpa2 k0
   rw [<-hcl] at hce1 hcc hcl16 hca k1
   cases hpe1
   cases hce1
   have HPL:=h! hpl2
   have HCL:=h! hcl
   have HPA2:=h! hpa2
   have HPX2:=h! hpx2
   have HCA2:=h! hca
   have HCX2:=h! hcx
   clear hpl2 hcl hpa2 hpx2 hca hcx q1 q2 q3 q4 q5 q6 hC hB1 hB2 hjx k2 k3 k4 k5
   go_wp2_with fail
   go_loopw [8] (fun iv wr' => ∃ i:Nat,i <= pl/\iv = .int .i64 i/\NoE id (parN f.params.length ++ (blkN f c ++ phiN c x.phis i))/\wr' = wr) (fun iv _=>pl - (intOf iv).toNat)
   case atStart=>exact ⟨0,Nat.zero_le _,rfl,by simpa [phiN] using HN.out,rfl⟩
   obtain ⟨i,hi,rfl,hn,rfl⟩:=hrel
   have HN2:=h! hn
   clear hn
   by_cases hlt1:i < pl
   ·obtain ⟨rfl,hbp⟩:=HPA2.out (by omega)
    obtain ⟨p,hkp⟩ : ∃ p,x.phis[i]? = some p:=⟨_,aC (by have:=HPL.out;omega)⟩
    obtain ⟨af,av,cf,cv,hP⟩:=HPX2.out i p hkp
    obtain ⟨m0,m1,m2,m3,r1,r2,r3,r4⟩:=hP.below HW.out hbp
    have HSP:=h! (mS (b:=c) hkp)
    have HPP:Hid (parN f.params.length ++ (blkN f c ++ phiN c x.phis (i+1)) <+: entF f):=h! (by
     refine List.IsPrefix.trans ?_ HPRE.out
     rw [bV,bV]
     unfold entB
     exact (tM c x.phis (by have:=HPL.out;omega)).trans (dR _ _))
    clear m1 m2 m3 r1 r2 r3 r4 hP hkp
    by_cases hpid:p.id=id
    ·have HD:Hid (sG f id c (-1) true):=h! (.inl ⟨(p.id,(c:Int), -1),HN2.out.found hpid (by have h9:=HPP.out;rw [HSP.out] at h9;simpa [List.append_assoc] using h9),rfl,rfl,rfl⟩)
     have hq:(p.id == id)=true:=by simp [hpid]
     clear hpid
     go_wp2
     go_ret3
     exact ⟨c, -1,true,rfl,HD.out,HW.out⟩
    have HN3:Hid (NoE id (parN f.params.length ++ (blkN f c ++ phiN c x.phis (i+1)))):=h! (by
     rw [HSP.out, <-List.append_assoc, <-List.append_assoc]
     refine NoE.append (by rw [bN];exact HN2.out) ?_
     intro e he
     simp at he
     subst he
     exact hpid)
    have hq:(p.id == id)=false:=by simp [hpid]
    clear hpid
    go_wp2
    go_roundw
    case rel=>exact ⟨i+1,hlt1,by go_num,HN3.out,by first | rfl | trivial⟩
    simp [intOf];omega
   have hip:i=pl:=by omega
   have HN3:Hid (NoE id (parN f.params.length ++ (blkN f c ++ (phiN c x.phis x.phis.length ++ codN c x.code 0)))):=h! (by
    have h9:=HN2.out
    rw [hip,HPL.out] at h9
    simpa [codN] using h9)
   clear hip
   go_wp2_with fail
   go_loopw [9] (fun iv wr'' => ∃ k:Nat,k <= cl/\iv = .int .i64 k/\NoE id (parN f.params.length ++ (blkN f c ++ (phiN c x.phis x.phis.length ++ codN c x.code k)))/\wr'' = wr) (fun iv _=>cl - (intOf iv).toNat)
   case atStart=>exact ⟨0,aJ _,rfl,HN3.out,rfl⟩
   obtain ⟨k,hk,rfl,hn,rfl⟩:=hrel
   have HN4:=h! hn
   clear hn
   by_cases hlt3:k < cl
   ·obtain ⟨rfl,hbp⟩:=HCA2.out (by omega)
    obtain ⟨y,hky⟩ : ∃ y,x.code[k]? = some y:=⟨_,aC (by have:=HCL.out;omega)⟩
    obtain ⟨aa,ca,hP⟩:=HCX2.out k y hky
    obtain ⟨m0,m1,m2,m3,r1,r2,r3,r4⟩:=hP.below HW.out hbp
    have HSC:=h! (lC (b:=c) hky)
    have HPP:Hid (parN f.params.length ++ (blkN f c ++ (phiN c x.phis x.phis.length ++ codN c x.code (k+1))) <+: entF f):=h! (by
     refine List.IsPrefix.trans ?_ HPRE.out
     rw [bV,bV]
     unfold entB
     rw [bV]
     exact tN c x.code (by have:=HCL.out;omega))
    clear m0 m2 m3 r1 r2 r3 r4 hP hky
    by_cases hpid:y.id=id
    ·have hq:(y.id == id)=true:=by simp [hpid]
     have HN5:Hid (NoE id (parN f.params.length ++ (blkN f c ++ (phiN c x.phis x.phis.length ++ codN c x.code (k+1))))):=h! (by
      rw [HSC.out,if_neg (by rw [hpid];omega),bR];exact HN4.out)
     clear hpid
     go_wp2
     go_roundw
     case rel=>exact ⟨k+1,hlt3,by go_num,HN5.out,by first | rfl | trivial⟩
     simp [intOf];omega
    have HN5:Hid (NoE id (parN f.params.length ++ (blkN f c ++ (phiN c x.phis x.phis.length ++ codN c x.code (k+1))))):=h! (by
     rw [HSC.out]
     by_cases h8:0 <= y.id
     ·rw [if_pos h8, <-List.append_assoc, <-List.append_assoc, <-List.append_assoc]
      refine NoE.append (by rw [bN,bN];exact HN4.out) ?_
      intro e he
      simp at he
      subst he
      exact hpid
     rw [if_neg h8,bR];exact HN4.out)
    have hq:(y.id == id)=false:=by simp [hpid]
    clear hpid
    go_wp2
    go_roundw
    case rel=>exact ⟨k+1,hlt3,by go_num,HN5.out,by first | rfl | trivial⟩
    simp [intOf];omega
   have hkc:k=cl:=by omega
   have HN5:Hid (NoE id (parN f.params.length ++ blkN f (c+1))):=h! (by
    have h9:=HN4.out
    rw [hkc,HCL.out] at h9
    rw [HSN.out];exact h9)
   clear hkc
   go_wp2
   go_roundw
   case rel=>exact ⟨c+1,hltb,by go_num,HN5.out,by first | rfl | trivial⟩
   simp [intOf];omega
  have hcn:c=nb:=by omega
  have HD:Hid (sG f id 0 0 false):=h! (.inr ⟨NoE.find (by have h9:=HN.out;rw [hcn,HNB.out] at h9;exact h9),rfl,rfl,rfl⟩)
  clear hcn
  go_wp2
  go_ret3
  exact ⟨0,0,false,rfl,HD.out,HW.out⟩
 have hpos:0 <= id:=hid0
 have hnl:¬ id < (np:Int):=by omega
 clear hid0 hid1
 go_wp2_with fail
 go_loopw [7] (fun iv wr => ∃ c:Nat,c <= nb/\iv = .int .i64 c/\NoE id (parN f.params.length ++ blkN f c)/\wr=wv) (fun iv _=>nb - (intOf iv).toNat)
 case atStart=>exact ⟨0,aJ _,rfl,HN0.out,rfl⟩
 obtain ⟨c,hc,rfl,hn,rfl⟩:=hrel
 have HN:=h! hn
 clear hn
 by_cases hltb:c < nb
 ·obtain ⟨rfl,hbw⟩:=HBA.out (by omega)
  obtain ⟨x,hjx⟩ : ∃ x,f.blocks[c]? = some x:=⟨_,aC (by have:=HNB.out;omega)⟩
  obtain ⟨api,aii,ati,cpi,cii,cti,hC⟩:=HBX.out c x hjx
  have HSN:=h! (kC hjx)
  have HPRE:=h! (tO hjx)
  have hB1:=hC.phis
  have hB2:=hC.code
  obtain ⟨pl,hpl2⟩ : ∃ pl,pl=x.phis.length:=⟨_,rfl⟩
  obtain ⟨cl,hcl⟩ : ∃ cl,cl=x.code.length:=⟨_,rfl⟩
  obtain ⟨ac,capc,bcd,ocd,hce1,hcc,hcm,hcl16,hca,hcx⟩:=fS hB2
  obtain ⟨apx,capp,bph,oph,hpe1,hppc,hppm,hpl16,hpa2,hpx2⟩:=fH hB1
  obtain ⟨k0,k1,k2,k3,k4,k5,q1,q2,q3,q4,q5,q6⟩:=hC.below HW.out hbw
  rw [<-hpl2] at hpe1 hppc hpl16 hpa2 k0
  rw [<-hcl] at hce1 hcc hcl16 hca k1
  cases hpe1
  cases hce1
  have HPL:=h! hpl2
  have HCL:=h! hcl
  have HPA2:=h! hpa2
  have HPX2:=h! hpx2
  have HCA2:=h! hca
  have HCX2:=h! hcx
  clear hpl2 hcl hpa2 hpx2 hca hcx q1 q2 q3 q4 q5 q6 hC hB1 hB2 hjx k2 k3 k4 k5
  go_wp2_with fail
  go_loopw [8] (fun iv wr' => ∃ i:Nat,i <= pl/\iv = .int .i64 i/\NoE id (parN f.params.length ++ (blkN f c ++ phiN c x.phis i))/\wr' = wr) (fun iv _=>pl - (intOf iv).toNat)
  case atStart=>exact ⟨0,Nat.zero_le _,rfl,by simpa [phiN] using HN.out,rfl⟩
  obtain ⟨i,hi,rfl,hn,rfl⟩:=hrel
  have HN2:=h! hn
  clear hn
  by_cases hlt1:i < pl
  ·obtain ⟨rfl,hbp⟩:=HPA2.out (by omega)
   obtain ⟨p,hkp⟩ : ∃ p,x.phis[i]? = some p:=⟨_,aC (by have:=HPL.out;omega)⟩
   obtain ⟨af,av,cf,cv,hP⟩:=HPX2.out i p hkp
   obtain ⟨m0,m1,m2,m3,r1,r2,r3,r4⟩:=hP.below HW.out hbp
   have HSP:=h! (mS (b:=c) hkp)
   have HPP:Hid (parN f.params.length ++ (blkN f c ++ phiN c x.phis (i+1)) <+: entF f):=h! (by
    refine List.IsPrefix.trans ?_ HPRE.out
    rw [bV,bV]
    unfold entB
    exact (tM c x.phis (by have:=HPL.out;omega)).trans (dR _ _))
   clear m1 m2 m3 r1 r2 r3 r4 hP hkp
   by_cases hpid:p.id=id
   ·have HD:Hid (sG f id c (-1) true):=h! (.inl ⟨(p.id,(c:Int), -1),HN2.out.found hpid (by have h9:=HPP.out;rw [HSP.out] at h9;simpa [List.append_assoc] using h9),rfl,rfl,rfl⟩)
    have hq:(p.id == id)=true:=by simp [hpid]
    clear hpid
    go_wp2
    go_ret3
    exact ⟨c, -1,true,rfl,HD.out,HW.out⟩
   have HN3:Hid (NoE id (parN f.params.length ++ (blkN f c ++ phiN c x.phis (i+1)))):=h! (by
    rw [HSP.out, <-List.append_assoc, <-List.append_assoc]
    refine NoE.append (by rw [bN];exact HN2.out) ?_
    intro e he
    simp at he
    subst he
    exact hpid)
   have hq:(p.id == id)=false:=by simp [hpid]
   clear hpid
   go_wp2
   go_roundw
   case rel=>exact ⟨i+1,hlt1,by go_num,HN3.out,by first | rfl | trivial⟩
   simp [intOf];omega
  have hip:i=pl:=by omega
  have HN3:Hid (NoE id (parN f.params.length ++ (blkN f c ++ (phiN c x.phis x.phis.length ++ codN c x.code 0)))):=h! (by
   have h9:=HN2.out
   rw [hip,HPL.out] at h9
   simpa [codN] using h9)
  clear hip
  go_wp2_with fail
  go_loopw [9] (fun iv wr'' => ∃ k:Nat,k <= cl/\iv = .int .i64 k/\NoE id (parN f.params.length ++ (blkN f c ++ (phiN c x.phis x.phis.length ++ codN c x.code k)))/\wr'' = wr) (fun iv _=>cl - (intOf iv).toNat)
  case atStart=>exact ⟨0,aJ _,rfl,HN3.out,rfl⟩
  obtain ⟨k,hk,rfl,hn,rfl⟩:=hrel
  have HN4:=h! hn
  clear hn
  by_cases hlt3:k < cl
  ·obtain ⟨rfl,hbp⟩:=HCA2.out (by omega)
   obtain ⟨y,hky⟩ : ∃ y,x.code[k]? = some y:=⟨_,aC (by have:=HCL.out;omega)⟩
   obtain ⟨aa,ca,hP⟩:=HCX2.out k y hky
   obtain ⟨m0,m1,m2,m3,r1,r2,r3,r4⟩:=hP.below HW.out hbp
   have HSC:=h! (lC (b:=c) hky)
   have HPP:Hid (parN f.params.length ++ (blkN f c ++ (phiN c x.phis x.phis.length ++ codN c x.code (k+1))) <+: entF f):=h! (by
    refine List.IsPrefix.trans ?_ HPRE.out
    rw [bV,bV]
    unfold entB
    rw [bV]
    exact tN c x.code (by have:=HCL.out;omega))
   clear m0 m2 m3 r1 r2 r3 r4 hP hky
   by_cases hpid:y.id=id
   ·have hq:(y.id == id)=true:=by simp [hpid]
    have HD:Hid (sG f id c k true):=h! (.inl ⟨(y.id,(c:Int),(k:Int)),HN4.out.found hpid (by have h9:=HPP.out;rw [HSC.out,if_pos (by rw [hpid];exact hpos)] at h9;simpa [List.append_assoc] using h9),rfl,rfl,rfl⟩)
    clear hpid
    go_wp2
    go_ret3
    exact ⟨c,k,true,rfl,HD.out,HW.out⟩
   have HN5:Hid (NoE id (parN f.params.length ++ (blkN f c ++ (phiN c x.phis x.phis.length ++ codN c x.code (k+1))))):=h! (by
    rw [HSC.out]
    by_cases h8:0 <= y.id
    ·rw [if_pos h8, <-List.append_assoc, <-List.append_assoc, <-List.append_assoc]
     refine NoE.append (by rw [bN,bN];exact HN4.out) ?_
     intro e he
     simp at he
     subst he
     exact hpid
    rw [if_neg h8,bR];exact HN4.out)
   have hq:(y.id == id)=false:=by simp [hpid]
   clear hpid
   go_wp2
   go_roundw
   case rel=>exact ⟨k+1,hlt3,by go_num,HN5.out,by first | rfl | trivial⟩
   simp [intOf];omega
  have hkc:k=cl:=by omega
  have HN5:Hid (NoE id (parN f.params.length ++ blkN f (c+1))):=h! (by
   have h9:=HN4.out
   rw [hkc,HCL.out] at h9
   rw [HSN.out];exact h9)
  clear hkc
  go_wp2
  go_roundw
  case rel=>exact ⟨c+1,hltb,by go_num,HN5.out,by first | rfl | trivial⟩
  simp [intOf];omega
 have hcn:c=nb:=by omega
 have HD:Hid (sG f id 0 0 false):=h! (.inr ⟨NoE.find (by have h9:=HN.out;rw [hcn,HNB.out] at h9;exact h9),rfl,rfl,rfl⟩)
 clear hcn
 go_wp2
 go_ret3
 exact ⟨0,0,false,rfl,HD.out,HW.out⟩
section
open Go.RowKit
def jD (f:FuncD) (t b:Nat):List (List Int):=(List.range f.blocks.length).map fun u=>natI (if u < t then fV f f.blocks.length 0 u else if u=t then fV f b 0 u else [])
theorem mB (f:FuncD) (t b:Nat):(jD f t b).length=f.blocks.length:=by simp [jD]
theorem tP {f:FuncD} {t b:Nat} (h:t < f.blocks.length):(jD f t b)[t]? = some (natI (fV f b 0 t)):=by simp [jD,h]
theorem sH (f:FuncD):jD f 0 0=List.replicate f.blocks.length []:=by
 apply bH
 intro t
 by_cases h:t < f.blocks.length
 ·simp only [jD,aM,dV h,cN]
  rw [List.getElem?_replicate,if_pos h]
  by_cases e:t=0 <;> simp [e,natI,iE]
 rw [aS (by rw [mB];omega),aS (by simp;omega)]
theorem pA (f:FuncD) (b t:Nat):fV f (b+1) 0 t=fV f b 0 t ++ (if (toB f b).contains t then [b] else []):=by
 rw [iE,iE,List.range_succ,eA]
 simp only [List.filter_cons,List.filter_nil]
theorem xQ {f:FuncD} {t b:Nat} (h:(toB f b).contains t=false):jD f t (b+1)=jD f t b:=by
 unfold jD
 refine dD fun u _ => ?_
 by_cases e:u=t
 ·subst e;rw [pA,h];simp
 simp [e]
theorem xR {f:FuncD} {t b:Nat} (h:(toB f b).contains t=true) (ht:t < f.blocks.length):(jD f t b).set t (natI (fV f b 0 t ++ [b]))=jD f t (b+1):=by
 apply bH
 intro u
 rw [cC,mB]
 by_cases hu:u < f.blocks.length
 ·have e0:∀ b,(jD f t b)[u]? = some (natI (if u < t then fV f f.blocks.length 0 u else if u=t then fV f b 0 u else [])):=fun b=>by simp [jD,hu]
  rw [e0,e0]
  by_cases e:t=u
  ·subst e
   rw [if_pos rfl,if_pos hu,if_neg (Nat.lt_irrefl _),if_pos rfl,pA,h]
   simp
  rw [if_neg e,if_neg (Ne.symm e),if_neg (Ne.symm e)]
 rw [aS (by rw [mB];omega),aS (by rw [mB];omega)]
 split <;> simp_all
theorem uQ (f:FuncD) (t:Nat):jD f t f.blocks.length=jD f (t+1) 0:=by
 unfold jD
 refine dD fun u _ => ?_
 by_cases h1:u < t
 ·rw [if_pos h1,if_pos (by omega)]
 rw [if_neg h1]
 by_cases h2:u=t
 ·subst h2;rw [if_pos rfl,if_pos (by omega)]
 rw [if_neg h2,if_neg (by omega)]
 split
 ·simp [iE]
 rfl
theorem uR (f:FuncD):jD f f.blocks.length 0=gQ f:=by
 unfold jD gQ jN
 refine dD fun u hu => ?_
 rw [if_pos (cS.1 hu)]
set_option maxRecDepth 100000 in
theorem aA9 {w:World} {v:Value} {f:FuncD} (hv:fJ w v f) (hf:gS f=true):Calls Tryz.prog 61 #[v] w fun e w' => ∃ pv,e = .returned pv/\nI w' pv (gQ f)/\Below w.heap.size w w':=by
 have HTO:=h! (fun (b:Nat) (x:BlockD) (h:f.blocks[b]? = some x)=>nX hf h)
 obtain ⟨hn1,hn2⟩:=iJ hf
 obtain ⟨ap,cp,ab,cb,rfl,hp,ha,hc,hB⟩:=hv.form
 obtain ⟨a2,c2,bb,bo,hbe,hbc,hbm,hbl,hba,hbx⟩:=eU hB
 cases hbe
 obtain ⟨np,hnp⟩ : ∃ np,np=f.params.length:=⟨_,rfl⟩
 obtain ⟨nb,hnb⟩ : ∃ nb,nb=f.blocks.length:=⟨_,rfl⟩
 rw [<-hnp]
 rw [<-hnb] at hbc hba hbl hn1 hn2 ⊢
 obtain ⟨rfl,hbw⟩:=hba hn1
 have HNB:=h! hnb
 have HBX:=h! hbx
 have hn0:(0:Int) <= (nb:Int):=by omega
 clear hp ha hc hB hv hbx hnp hnb hba hf
 generalize f.arrays=ar at *
 generalize f.cells=ce at *
 have hmk:=run_make_row' (P:=Tryz.prog) 42 22 (.slice none 0 0) 24 Tryz.underlying42 uL rfl .i64 .i64 nb (by omega) (by omega)
 go_enter Tryz.func61,Tryz.ntmps61
 go_upto_region 1 with (fail)
 have hA_:=(Below.refl w.heap.size w).alloc (aA _) (.cells #[.slice ap np cp,.int .i64 ar,.int .i64 ce,.slice (some ⟨bb,bo,none⟩) nb cb] 25)
 have HW:=h! hA_
 clear hA_
 have B1:=h! (Box.new w #[.slice ap np cp,.int .i64 ar,.int .i64 ce,.slice (some ⟨bb,bo,none⟩) nb cb] 25)
 generalize w.alloc (.cells #[.slice ap np cp,.int .i64 ar,.int .i64 ce,.slice (some ⟨bb,bo,none⟩) nb cb] 25)=wv at *
 obtain ⟨lB1,cB1,fB1⟩:=B1.out
 go_upto_region 2 with (fail)
 have HRW:Hid (Bag (wv.alloc (.cells (madeCells #[.slice none 0 0] nb) 22)) w.heap.size [w.heap.size] wv.heap.size 3 _ (jD f 0 0)):=h! (by
  rw [sH, <-HNB.out]
  exact Bag.empty (Box.new _ _ _))
 have hbA:=(Below.refl wv.heap.size wv).alloc (aA _) (.cells (madeCells #[.slice none 0 0] nb) 22)
 have HG0:Hid (w.heap.size < wv.heap.size):=h! lB1
 clear lB1 cB1 fB1
 replace B1:=h! (B1.out.later hbA)
 replace HW:=h! (HW.out.trans (hbA.mono HW.out.size))
 clear hbA
 obtain ⟨lB1,cB1,fB1⟩:=B1.out
 obtain ⟨bp,hbp⟩ : ∃ bp,bp=wv.heap.size:=⟨_,rfl⟩
 rw [<-hbp] at HRW HG0
 generalize wv.alloc _=wa at *
 simp only [<-hbp]
 clear hbp hmk
 go_wp2_with fail
 go_loopw [4] (fun i wr => ∃ (t:Nat) (vs:List Value),t <= nb/\i = .int .i64 t/\Bag wr w.heap.size [w.heap.size] bp 3 vs (jD f t 0)/\Below w.heap.size w wr/\Box wr w.heap.size #[.slice ap np cp,.int .i64 ar,.int .i64 ce,.slice (some ⟨bb,bo,none⟩) nb cb]) (fun i _=>nb - (intOf i).toNat)
 case atStart=>exact ⟨0,_,aJ _,rfl,HRW.out,HW.out,B1.out⟩
 obtain ⟨t,vs,ht,rfl,hR,hW,h1⟩:=hrel
 clear lB1 cB1 fB1
 replace HRW:=h! hR
 replace HW:=h! hW
 replace B1:=h! h1
 clear hR hW h1
 generalize wr=w3 at *
 obtain ⟨lB1,cB1,fB1⟩:=B1.out
 by_cases hlt:t < nb
 ·go_wp2_with fail
  go_loopw [5] (fun i wr => ∃ (b:Nat) (vs:List Value),b <= nb/\i = .int .i64 b/\Bag wr w.heap.size [w.heap.size] bp 3 vs (jD f t b)/\Below w.heap.size w wr/\Box wr w.heap.size #[.slice ap np cp,.int .i64 ar,.int .i64 ce,.slice (some ⟨bb,bo,none⟩) nb cb]) (fun i _=>nb - (intOf i).toNat)
  case atStart=>exact ⟨0,_,aJ _,rfl,HRW.out,HW.out,B1.out⟩
  obtain ⟨b,vs,hb,rfl,hR,hW,h1⟩:=hrel
  clear lB1 cB1 fB1
  replace HRW:=h! hR
  replace HW:=h! hW
  replace B1:=h! h1
  clear hR hW h1
  generalize wr=w5 at *
  obtain ⟨lB1,cB1,fB1⟩:=B1.out
  by_cases hltb:b < nb
  ·obtain ⟨x,hjx⟩ : ∃ x,f.blocks[b]? = some x:=⟨_,aC (by have:=HNB.out;omega)⟩
   obtain ⟨api,aii,ati,cpi,cii,cti,hC⟩:=HBX.out b x hjx
   have HIT:=h! (hC.to.below HW.out)
   obtain ⟨k0,k1,k2,k3,k4,k5,q1,q2,q3,q4,q5,q6⟩:=hC.below HW.out hbw
   obtain ⟨cc,hcc⟩ : ∃ cc,cc=x.term.to.contains (t:Int):=⟨_,rfl⟩
   have HCC:Hid ((toB f b).contains t=cc):=h! (by
    rw [hcc,mW (fun y hy=>by have:=HTO.out b x hjx y hy;omega),sF hjx])
   have HCT:=h! (aC1 (x:=(t:Int)) HIT.out)
   rw [<-hcc] at HCT
   clear q1 q2 q3 q4 q5 q6 hC hjx k0 k1 k2 k3 k5 hcc
   go_wp2_with fail
   refine HCT.out.mono ?_
   rintro e w6 ⟨rfl,rfl⟩
   clear k4
   cases cc
   ·go_wp2
    go_roundw
    case rel=>exact ⟨b+1,vs,hltb,by go_num,by rw [xQ HCC.out];exact HRW.out,HW.out,B1.out⟩
    simp [intOf];omega
   obtain ⟨v,hvt,hcv,hOv⟩:=HRW.out.at (tP (f:=f) (t:=t) (b:=b) (by have:=HNB.out;omega))
   obtain ⟨n,hn⟩ : ∃ n,n=(natI (fV f b 0 t)).length:=⟨_,rfl⟩
   have hnle:n <= b+1:=by rw [hn,fY];exact nV f b 0 t
   rw [<-hn] at hOv
   have HN:=h! hn
   have HO:=h! hOv
   have HVT:=h! hvt
   obtain ⟨va,vc,rfl⟩:=hOv.form
   have hbpl:=HRW.out.box.lt
   have hbpf:=HRW.out.box.free t
   clear hn hOv hvt
   have HAP:=h! (HO.out.alloc (.cells #[.int .i64 b] 3))
   have HBX1:=h! (Box.new w5 #[.int .i64 b] 3)
   have HBR:=h! (HRW.out.alloc (.cells #[.int .i64 b] 3))
   have HB1:=h! (B1.out.alloc (.cells #[.int .i64 b] 3))
   have HWA:=h! (HW.out.alloc HW.out.size (.cells #[.int .i64 b] 3))
   go_wp2_with (at_builtin;refine tG rfl _ _ 22 3 rfl nJ rfl rfl HAP.out (Row.of_box (n:=1) (size:=1) HBX1.out rfl (by omega)) (by simp [Value.oneCell']) (by unfold maxLen;omega) (by omega) HWA.out.size (by intro y hy;simp at hy ⊢;omega) ?_;intro v7 w7 hO7 hK7;obtain ⟨oa7,oc7,rfl⟩:=hO7.form;have HO7:=h! hO7;have HK7:=h! hK7;have hc7:w7.cell? ⟨bp,t,none⟩=some (.slice va n vc):=(HBR.out.box.kept hK7 (by simp) (fun e=>HO.out.free _ e (by simp))).at t (by simpa using HVT.out);have hf7:w7.frozen? ⟨bp,t,none⟩=false:=(HBR.out.box.kept hK7 (by simp) (fun e=>HO.out.free _ e (by simp))).free t;clear hO7 hK7)
   have HR7:Hid (Bag (w7.setCell ⟨bp,t,none⟩ (.slice oa7 (n+1) oc7)) w.heap.size [w.heap.size] bp 3 (vs.set t (.slice oa7 (n+1) oc7)) (jD f t (b+1))):=h! (by
    rw [<-xR HCC.out (by have:=HNB.out;omega)]
    refine HBR.out.put HVT.out (tP (by have:=HNB.out;omega)) ?_ HK7.out
    have e9:natI (fV f b 0 t ++ [b])=natI (fV f b 0 t) ++ [(b:Int)]:=by simp [natI]
    rw [e9,aI,bC, <-HN.out]
    exact HO7.out)
   have HW7:=h! ((HK7.out.below HWA.out (by simp) (fun k hk=>(HAP.out.lt hk).2)).setCell (p:=⟨bp,t,none⟩) (by have:=HG0.out;simp only;omega) (.slice oa7 (n+1) oc7))
   have H17:=h! ((HB1.out.kept HK7.out (by simp) (fun e=>HO.out.free _ e (by simp))).other (p:=⟨bp,t,none⟩) (.slice oa7 (n+1) oc7) (by have:=HG0.out;simp only;omega))
   go_roundw
   case rel=>exact ⟨b+1,_,hltb,by go_num,HR7.out,HW7.out,H17.out⟩
   simp [intOf];omega
  have hbn:b=nb:=by omega
  have HNX:Hid (jD f t b=jD f (t+1) 0):=h! (by rw [hbn,HNB.out,uQ])
  go_wp2
  go_roundw
  case rel=>exact ⟨t+1,vs,hlt,by go_num,by rw [<-HNX.out];exact HRW.out,HW.out,B1.out⟩
  simp [intOf];omega
 have htn:t=nb:=by omega
 have HLS:Hid (nI w3 (.slice (some ⟨bp,0,none⟩) nb nb) (gQ f)):=h! (by
  have h1:=HRW.out
  rw [htn,HNB.out,uR] at h1
  have h2:=h1.lists (by unfold gQ;rw [iD];have:=HNB.out;omega) (uK (by have:=HNB.out;omega))
  have h3:(gQ f).length=nb:=by unfold gQ;rw [iD,HNB.out]
  rw [h3] at h2;exact h2)
 go_wp2
 go_ret
 exact ⟨_,rfl,HLS.out,HW.out⟩
end
section
open Go.RowKit
end
section
open Go.RowKit
end
end Go.Proofs.YtagabiidbbhhmaaGreat
