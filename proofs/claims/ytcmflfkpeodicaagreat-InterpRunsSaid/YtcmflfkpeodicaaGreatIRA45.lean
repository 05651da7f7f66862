/- Part 45. -/
import Derived.Test.YtcmflfkpeodicaaGreatIRA26
namespace Go.Proofs.YtcmflfkpeodicaaGreat
set_option linter.all false
open Go.RowKit
theorem qS {α : Type} (g:Nat -> List α) (n:Nat) (h:∀ i,i < n -> g i <+: g (i+1)):∀ k i,i+k=n -> g i <+: g n:=by
 intro k
 induction k with
 | zero=>intro i e;rw [<-e,bW];exact List.prefix_rfl
 | succ k ih=>intro i e;exact (h i (by omega)).trans (ih (i+1) (by omega))
theorem vF (b:Nat) (ps:List PhiD) {i:Nat} (h:i <= ps.length):phiN b ps i <+: phiN b ps ps.length :=
 qS (phiN b ps) ps.length (fun j hj=>by rw [mR (aB hj)];exact dM _ _) (ps.length - i) i (by omega)
theorem vG (b:Nat) (xs:List InstrD) {i:Nat} (h:i <= xs.length):codN b xs i <+: codN b xs xs.length :=
 qS (codN b xs) xs.length (fun j hj=>by rw [lD (aB hj)];exact dM _ _) (xs.length - i) i (by omega)
theorem aCF (f:FuncD) {c:Nat} (h:c <= f.blocks.length):blkN f c <+: blkN f f.blocks.length :=
 qS (blkN f) f.blocks.length (fun j hj=>by rw [kM (aB hj)];exact dM _ _) (f.blocks.length - c) c (by omega)
theorem vH {f:FuncD} {c:Nat} {x:BlockD} (h:f.blocks[c]? = some x):parN f.params.length ++ (blkN f c ++ entB c x) <+: entF f:=by
 unfold entF
 rw [bT, <-kM h]
 exact aCF f (aE.1 h).1
def NoE (id:Int) (l:List (Int × Int × Int)):Prop := ∀ e ∈ l,e.1 ≠ id
theorem NoE.find {id:Int} {l:List (Int × Int × Int)} (h:NoE id l):(l.find? fun e=>e.1 == id)=none:=by
 rw [List.find?_eq_none];intro x hx;simpa using h x hx
theorem NoE.found {id:Int} {l L:List (Int × Int × Int)} {e:Int × Int × Int} (h:NoE id l) (he:e.1=id) (hp:l ++ [e] <+: L):(L.find? fun e=>e.1 == id)=some e:=by
 obtain ⟨r,rfl⟩:=hp
 rw [bV,List.find?_append,h.find,Option.none_or]
 simp [List.find?_cons,he]
theorem NoE.append {id:Int} {l m:List (Int × Int × Int)} (h:NoE id l) (k:NoE id m):NoE id (l ++ m):=fun e he=>by
 rcases aO.1 he with he | he
 ·exact h e he
 exact k e he
theorem aAR {n:Nat} {id:Int} (h:¬ (0 <= id/\id < (n:Int))):NoE id (parN n):=fun e he hid=>by
 unfold parN at he
 rw [aY] at he
 obtain ⟨j,hj,rfl⟩:=he
 have:=cO.1 hj
 simp at hid
 omega
theorem xM {n:Nat} {id:Int} (h0:0 <= id) (h1:id < (n:Int)) (r:List (Int × Int × Int)):((parN n ++ r).find? fun e=>e.1 == id)=some (id,0, -1):=by
 obtain ⟨k,rfl⟩ : ∃ k:Nat,id=(k:Int):=⟨id.toNat,by omega⟩
 have hk:k < n:=by omega
 refine (aAR (n:=k) (by omega)).found (e:=((k:Int),0, -1)) rfl ?_
 rw [<-oI]
 have:=qS parN n (fun i _=>by rw [oI];exact dM _ _) (n - (k+1)) (k+1) (by omega)
 exact this.trans (dM _ _)
def tV (f:FuncD) (id b at_:Int) (ok:Bool):Prop :=
 (∃ e,((entF f).find? fun e=>e.1 == id)=some e/\b=e.2.1/\at_=e.2.2/\ok=true) \/ (((entF f).find? fun e=>e.1 == id)=none/\b=0/\at_=0/\ok=false)
def aIE (f:FuncD) (id:Int) (w:World) (e:Ending) (w' : World):Prop := ∃ (b at_:Int) (ok:Bool),e = .returned (.tuple #[.int .i64 b,.int .i64 at_,.bool ok])/\tV f id b at_ ok/\Below w.heap.size w w'
set_option maxHeartbeats 25600000 in
set_option maxRecDepth 100000 in
theorem aGZ {w:World} {v:Value} {f:FuncD} {id:Int} (hv:gG w v f):Calls Tryz.prog 65 #[v,.int .i64 id] w (aIE f id w):=by
 obtain ⟨ap,cp,ab,cb,rfl,hp,ha,hc,hB⟩:=hv.form
 have hpl:=hp.le
 obtain ⟨a2,c2,bb,bo,hbe,hbc,hbm,hbl,hba,hbx⟩:=eW hB
 cases hbe
 obtain ⟨np,hnp⟩ : ∃ np,np=f.params.length:=⟨_,rfl⟩
 obtain ⟨nb,hnb⟩ : ∃ nb,nb=f.blocks.length:=⟨_,rfl⟩
 rw [<-hnp] at hpl ⊢
 rw [<-hnb] at hbc hba hbl ⊢
 have HNB:=h! hnb
 have HNP:=h! hnp
 have HBA:=h! hba
 have HBX:=h! hbx
 clear hp ha hc hB hv hbx hnp hnb hba
 generalize f.arrays=ar at *
 generalize f.cells=ce at *
 go_enter Tryz.func65,Tryz.ntmps65
 go_upto_region 1 with (fail)
 have hA_:=(Below.refl w.heap.size w).alloc (aF _) (.cells #[.slice ap np cp,.int .i64 ar,.int .i64 ce,.slice ab nb cb] 25)
 have HW:=h! hA_
 clear hA_
 have B1:=h! (Box.new w #[.slice ap np cp,.int .i64 ar,.int .i64 ce,.slice ab nb cb] 25)
 generalize w.alloc (.cells #[.slice ap np cp,.int .i64 ar,.int .i64 ce,.slice ab nb cb] 25)=wv at *
 obtain ⟨lB1,cB1,fB1⟩:=B1.out
 by_cases hpar:0 <= id/\id < (np:Int)
 ·obtain ⟨h0,h1⟩:=hpar
  have HD:Hid (tV f id 0 (-1) true):=h! (.inl ⟨(id,0, -1),by unfold entF;rw [<-HNP.out];exact xM h0 h1 _,rfl,rfl,rfl⟩)
  go_wp2
  go_ret3
  exact ⟨0, -1,true,rfl,HD.out,HW.out⟩
 have HN0:Hid (NoE id (parN f.params.length ++ blkN f 0)):=h! (by
  rw [<-HNP.out]
  exact (aAR hpar).append (by intro e he;simp [blkN] at he))
 have hcase:id < 0 \/ (0 <= id/\(np:Int) <= id):=by omega
 clear hpar
 rcases hcase with hid0 | ⟨hid0,hid1⟩
 ·have hpos:¬ 0 <= id:=by omega
  clear hid0
  go_wp2_with fail
  go_loopw [7] (fun iv wr => ∃ c:Nat,c <= nb/\iv = .int .i64 c/\NoE id (parN f.params.length ++ blkN f c)/\wr=wv) (fun iv _=>nb - (intOf iv).toNat)
  case atStart=>exact ⟨0,aP _,rfl,HN0.out,rfl⟩
  obtain ⟨c,hc,rfl,hn,rfl⟩:=hrel
  have HN:=h! hn
  clear hn
  by_cases hltb:c < nb
  ·obtain ⟨rfl,hbw⟩:=HBA.out (by omega)
   obtain ⟨x,hjx⟩ : ∃ x,f.blocks[c]? = some x:=⟨_,aB (by have:=HNB.out;omega)⟩
   obtain ⟨api,aii,ati,cpi,cii,cti,hC⟩:=HBX.out c x hjx
   have HSN:=h! (kM hjx)
   have HPRE:=h! (vH hjx)
   have hB1:=hC.phis
   have hB2:=hC.code
   obtain ⟨pl,hpl2⟩ : ∃ pl,pl=x.phis.length:=⟨_,rfl⟩
   obtain ⟨cl,hcl⟩ : ∃ cl,cl=x.code.length:=⟨_,rfl⟩
   obtain ⟨ac,capc,bcd,ocd,hce1,hcc,hcm,hcl16,hca,hcx⟩:=gC hB2
   obtain ⟨apx,capp,bph,oph,hpe1,hppc,hppm,hpl16,hpa2,hpx2⟩:=fV hB1
   obtain ⟨k0,k1,k2,k3,k4,k5,q1,q2,q3,q4,q5,q6⟩:=hC.below HW.out hbw
   rw [<-hpl2] at hpe1 hppc hpl16 hpa2 k0
   rw [<-hcl] at hce1 hcc hcl16 hca k1
   cases hpe1
   cases hce1
   have HPL:=h! hpl2
   have HCL:=h! hcl
   have HPA2:=h! hpa2
   have HPX2:=h! hpx2
   have HCA2:=h! hca
   have HCX2:=h! hcx
   clear hpl2 hcl hpa2 hpx2 hca hcx q1 q2 q3 q4 q5 q6 hC hB1 hB2 hjx k2 k3 k4 k5
   go_wp2_with fail
   go_loopw [8] (fun iv wr' => ∃ i:Nat,i <= pl/\iv = .int .i64 i/\NoE id (parN f.params.length ++ (blkN f c ++ phiN c x.phis i))/\wr' = wr) (fun iv _=>pl - (intOf iv).toNat)
   case atStart=>exact ⟨0,Nat.zero_le _,rfl,by simpa [phiN] using HN.out,rfl⟩
   obtain ⟨i,hi,rfl,hn,rfl⟩:=hrel
   have HN2:=h! hn
   clear hn
   by_cases hlt1:i < pl
   ·obtain ⟨rfl,hbp⟩:=HPA2.out (by omega)
    obtain ⟨p,hkp⟩ : ∃ p,x.phis[i]? = some p:=⟨_,aB (by have:=HPL.out;omega)⟩
    obtain ⟨af,av,cf,cv,hP⟩:=HPX2.out i p hkp
    obtain ⟨m0,m1,m2,m3,r1,r2,r3,r4⟩:=hP.below HW.out hbp
    have HSP:=h! (mR (b:=c) hkp)
    have HPP:Hid (parN f.params.length ++ (blkN f c ++ phiN c x.phis (i+1)) <+: entF f):=h! (by
     refine List.IsPrefix.trans ?_ HPRE.out
     rw [bT,bT]
     unfold entB
     exact (vF c x.phis (by have:=HPL.out;omega)).trans (dM _ _))
    clear m1 m2 m3 r1 r2 r3 r4 hP hkp
    by_cases hpid:p.id=id
    ·have HD:Hid (tV f id c (-1) true):=h! (.inl ⟨(p.id,(c:Int), -1),HN2.out.found hpid (by have h9:=HPP.out;rw [HSP.out] at h9;simpa [List.append_assoc] using h9),rfl,rfl,rfl⟩)
     have hq:(p.id == id)=true:=by simp [hpid]
     clear hpid
     go_wp2
     go_ret3
     exact ⟨c, -1,true,rfl,HD.out,HW.out⟩
    have HN3:Hid (NoE id (parN f.params.length ++ (blkN f c ++ phiN c x.phis (i+1)))):=h! (by
     rw [HSP.out, <-List.append_assoc, <-List.append_assoc]
     refine NoE.append (by rw [bV];exact HN2.out) ?_
     intro e he
     simp at he
     subst he
     exact hpid)
    have hq:(p.id == id)=false:=by simp [hpid]
    clear hpid
    go_wp2
    go_roundw
    case rel=>exact ⟨i+1,hlt1,by go_num,HN3.out,by first | rfl | trivial⟩
    simp [intOf];omega
   have hip:i=pl:=by omega
   have HN3:Hid (NoE id (parN f.params.length ++ (blkN f c ++ (phiN c x.phis x.phis.length ++ codN c x.code 0)))):=h! (by
    have h9:=HN2.out
    rw [hip,HPL.out] at h9
    simpa [codN] using h9)
   clear hip
   go_wp2_with fail
   go_loopw [9] (fun iv wr'' => ∃ k:Nat,k <= cl/\iv = .int .i64 k/\NoE id (parN f.params.length ++ (blkN f c ++ (phiN c x.phis x.phis.length ++ codN c x.code k)))/\wr'' = wr) (fun iv _=>cl - (intOf iv).toNat)
   case atStart=>exact ⟨0,aP _,rfl,HN3.out,rfl⟩
   obtain ⟨k,hk,rfl,hn,rfl⟩:=hrel
   have HN4:=h! hn
   clear hn
   by_cases hlt3:k < cl
   ·obtain ⟨rfl,hbp⟩:=HCA2.out (by omega)
    obtain ⟨y,hky⟩ : ∃ y,x.code[k]? = some y:=⟨_,aB (by have:=HCL.out;omega)⟩
    obtain ⟨aa,ca,hP⟩:=HCX2.out k y hky
    obtain ⟨m0,m1,m2,m3,r1,r2,r3,r4⟩:=hP.below HW.out hbp
    have HSC:=h! (lD (b:=c) hky)
    have HPP:Hid (parN f.params.length ++ (blkN f c ++ (phiN c x.phis x.phis.length ++ codN c x.code (k+1))) <+: entF f):=h! (by
     refine List.IsPrefix.trans ?_ HPRE.out
     rw [bT,bT]
     unfold entB
     rw [bT]
     exact vG c x.code (by have:=HCL.out;omega))
    clear m0 m2 m3 r1 r2 r3 r4 hP hky
    by_cases hpid:y.id=id
    ·have hq:(y.id == id)=true:=by simp [hpid]
     have HN5:Hid (NoE id (parN f.params.length ++ (blkN f c ++ (phiN c x.phis x.phis.length ++ codN c x.code (k+1))))):=h! (by
      rw [HSC.out,if_neg (by rw [hpid];omega),cK];exact HN4.out)
     clear hpid
     go_wp2
     go_roundw
     case rel=>exact ⟨k+1,hlt3,by go_num,HN5.out,by first | rfl | trivial⟩
     simp [intOf];omega
    have HN5:Hid (NoE id (parN f.params.length ++ (blkN f c ++ (phiN c x.phis x.phis.length ++ codN c x.code (k+1))))):=h! (by
     rw [HSC.out]
     by_cases h8:0 <= y.id
     ·rw [if_pos h8, <-List.append_assoc, <-List.append_assoc, <-List.append_assoc]
      refine NoE.append (by rw [bV,bV];exact HN4.out) ?_
      intro e he
      simp at he
      subst he
      exact hpid
     rw [if_neg h8,cK];exact HN4.out)
    have hq:(y.id == id)=false:=by simp [hpid]
    clear hpid
    go_wp2
    go_roundw
    case rel=>exact ⟨k+1,hlt3,by go_num,HN5.out,by first | rfl | trivial⟩
    simp [intOf];omega
   have hkc:k=cl:=by omega
   have HN5:Hid (NoE id (parN f.params.length ++ blkN f (c+1))):=h! (by
    have h9:=HN4.out
    rw [hkc,HCL.out] at h9
    rw [HSN.out];exact h9)
   clear hkc
   go_wp2
   go_roundw
   case rel=>exact ⟨c+1,hltb,by go_num,HN5.out,by first | rfl | trivial⟩
   simp [intOf];omega
  have hcn:c=nb:=by omega
  have HD:Hid (tV f id 0 0 false):=h! (.inr ⟨NoE.find (by have h9:=HN.out;rw [hcn,HNB.out] at h9;exact h9),rfl,rfl,rfl⟩)
  clear hcn
  go_wp2
  go_ret3
  exact ⟨0,0,false,rfl,HD.out,HW.out⟩
 have hpos:0 <= id:=hid0
 have hnl:¬ id < (np:Int):=by omega
 clear hid0 hid1
 go_wp2_with fail
 go_loopw [7] (fun iv wr => ∃ c:Nat,c <= nb/\iv = .int .i64 c/\NoE id (parN f.params.length ++ blkN f c)/\wr=wv) (fun iv _=>nb - (intOf iv).toNat)
 case atStart=>exact ⟨0,aP _,rfl,HN0.out,rfl⟩
 obtain ⟨c,hc,rfl,hn,rfl⟩:=hrel
 have HN:=h! hn
 clear hn
 by_cases hltb:c < nb
 ·obtain ⟨rfl,hbw⟩:=HBA.out (by omega)
  obtain ⟨x,hjx⟩ : ∃ x,f.blocks[c]? = some x:=⟨_,aB (by have:=HNB.out;omega)⟩
  obtain ⟨api,aii,ati,cpi,cii,cti,hC⟩:=HBX.out c x hjx
  have HSN:=h! (kM hjx)
  have HPRE:=h! (vH hjx)
  have hB1:=hC.phis
  have hB2:=hC.code
  obtain ⟨pl,hpl2⟩ : ∃ pl,pl=x.phis.length:=⟨_,rfl⟩
  obtain ⟨cl,hcl⟩ : ∃ cl,cl=x.code.length:=⟨_,rfl⟩
  obtain ⟨ac,capc,bcd,ocd,hce1,hcc,hcm,hcl16,hca,hcx⟩:=gC hB2
  obtain ⟨apx,capp,bph,oph,hpe1,hppc,hppm,hpl16,hpa2,hpx2⟩:=fV hB1
  obtain ⟨k0,k1,k2,k3,k4,k5,q1,q2,q3,q4,q5,q6⟩:=hC.below HW.out hbw
  rw [<-hpl2] at hpe1 hppc hpl16 hpa2 k0
  rw [<-hcl] at hce1 hcc hcl16 hca k1
  cases hpe1
  cases hce1
  have HPL:=h! hpl2
  have HCL:=h! hcl
  have HPA2:=h! hpa2
  have HPX2:=h! hpx2
  have HCA2:=h! hca
  have HCX2:=h! hcx
  clear hpl2 hcl hpa2 hpx2 hca hcx q1 q2 q3 q4 q5 q6 hC hB1 hB2 hjx k2 k3 k4 k5
  go_wp2_with fail
  go_loopw [8] (fun iv wr' => ∃ i:Nat,i <= pl/\iv = .int .i64 i/\NoE id (parN f.params.length ++ (blkN f c ++ phiN c x.phis i))/\wr' = wr) (fun iv _=>pl - (intOf iv).toNat)
  case atStart=>exact ⟨0,Nat.zero_le _,rfl,by simpa [phiN] using HN.out,rfl⟩
  obtain ⟨i,hi,rfl,hn,rfl⟩:=hrel
  have HN2:=h! hn
  clear hn
  by_cases hlt1:i < pl
  ·obtain ⟨rfl,hbp⟩:=HPA2.out (by omega)
   obtain ⟨p,hkp⟩ : ∃ p,x.phis[i]? = some p:=⟨_,aB (by have:=HPL.out;omega)⟩
   obtain ⟨af,av,cf,cv,hP⟩:=HPX2.out i p hkp
   obtain ⟨m0,m1,m2,m3,r1,r2,r3,r4⟩:=hP.below HW.out hbp
   have HSP:=h! (mR (b:=c) hkp)
   have HPP:Hid (parN f.params.length ++ (blkN f c ++ phiN c x.phis (i+1)) <+: entF f):=h! (by
    refine List.IsPrefix.trans ?_ HPRE.out
    rw [bT,bT]
    unfold entB
    exact (vF c x.phis (by have:=HPL.out;omega)).trans (dM _ _))
   clear m1 m2 m3 r1 r2 r3 r4 hP hkp
   by_cases hpid:p.id=id
   ·have HD:Hid (tV f id c (-1) true):=h! (.inl ⟨(p.id,(c:Int), -1),HN2.out.found hpid (by have h9:=HPP.out;rw [HSP.out] at h9;simpa [List.append_assoc] using h9),rfl,rfl,rfl⟩)
    have hq:(p.id == id)=true:=by simp [hpid]
    clear hpid
    go_wp2
    go_ret3
    exact ⟨c, -1,true,rfl,HD.out,HW.out⟩
   have HN3:Hid (NoE id (parN f.params.length ++ (blkN f c ++ phiN c x.phis (i+1)))):=h! (by
    rw [HSP.out, <-List.append_assoc, <-List.append_assoc]
    refine NoE.append (by rw [bV];exact HN2.out) ?_
    intro e he
    simp at he
    subst he
    exact hpid)
   have hq:(p.id == id)=false:=by simp [hpid]
   clear hpid
   go_wp2
   go_roundw
   case rel=>exact ⟨i+1,hlt1,by go_num,HN3.out,by first | rfl | trivial⟩
   simp [intOf];omega
  have hip:i=pl:=by omega
  have HN3:Hid (NoE id (parN f.params.length ++ (blkN f c ++ (phiN c x.phis x.phis.length ++ codN c x.code 0)))):=h! (by
   have h9:=HN2.out
   rw [hip,HPL.out] at h9
   simpa [codN] using h9)
  clear hip
  go_wp2_with fail
  go_loopw [9] (fun iv wr'' => ∃ k:Nat,k <= cl/\iv = .int .i64 k/\NoE id (parN f.params.length ++ (blkN f c ++ (phiN c x.phis x.phis.length ++ codN c x.code k)))/\wr'' = wr) (fun iv _=>cl - (intOf iv).toNat)
  case atStart=>exact ⟨0,aP _,rfl,HN3.out,rfl⟩
  obtain ⟨k,hk,rfl,hn,rfl⟩:=hrel
  have HN4:=h! hn
  clear hn
  by_cases hlt3:k < cl
  ·obtain ⟨rfl,hbp⟩:=HCA2.out (by omega)
   obtain ⟨y,hky⟩ : ∃ y,x.code[k]? = some y:=⟨_,aB (by have:=HCL.out;omega)⟩
   obtain ⟨aa,ca,hP⟩:=HCX2.out k y hky
   obtain ⟨m0,m1,m2,m3,r1,r2,r3,r4⟩:=hP.below HW.out hbp
   have HSC:=h! (lD (b:=c) hky)
   have HPP:Hid (parN f.params.length ++ (blkN f c ++ (phiN c x.phis x.phis.length ++ codN c x.code (k+1))) <+: entF f):=h! (by
    refine List.IsPrefix.trans ?_ HPRE.out
    rw [bT,bT]
    unfold entB
    rw [bT]
    exact vG c x.code (by have:=HCL.out;omega))
   clear m0 m2 m3 r1 r2 r3 r4 hP hky
   by_cases hpid:y.id=id
   ·have hq:(y.id == id)=true:=by simp [hpid]
    have HD:Hid (tV f id c k true):=h! (.inl ⟨(y.id,(c:Int),(k:Int)),HN4.out.found hpid (by have h9:=HPP.out;rw [HSC.out,if_pos (by rw [hpid];exact hpos)] at h9;simpa [List.append_assoc] using h9),rfl,rfl,rfl⟩)
    clear hpid
    go_wp2
    go_ret3
    exact ⟨c,k,true,rfl,HD.out,HW.out⟩
   have HN5:Hid (NoE id (parN f.params.length ++ (blkN f c ++ (phiN c x.phis x.phis.length ++ codN c x.code (k+1))))):=h! (by
    rw [HSC.out]
    by_cases h8:0 <= y.id
    ·rw [if_pos h8, <-List.append_assoc, <-List.append_assoc, <-List.append_assoc]
     refine NoE.append (by rw [bV,bV];exact HN4.out) ?_
     intro e he
     simp at he
     subst he
     exact hpid
    rw [if_neg h8,cK];exact HN4.out)
   have hq:(y.id == id)=false:=by simp [hpid]
   clear hpid
   go_wp2
   go_roundw
   case rel=>exact ⟨k+1,hlt3,by go_num,HN5.out,by first | rfl | trivial⟩
   simp [intOf];omega
  have hkc:k=cl:=by omega
  have HN5:Hid (NoE id (parN f.params.length ++ blkN f (c+1))):=h! (by
   have h9:=HN4.out
   rw [hkc,HCL.out] at h9
   rw [HSN.out];exact h9)
  clear hkc
  go_wp2
  go_roundw
  case rel=>exact ⟨c+1,hltb,by go_num,HN5.out,by first | rfl | trivial⟩
  simp [intOf];omega
 have hcn:c=nb:=by omega
 have HD:Hid (tV f id 0 0 false):=h! (.inr ⟨NoE.find (by have h9:=HN.out;rw [hcn,HNB.out] at h9;exact h9),rfl,rfl,rfl⟩)
 clear hcn
 go_wp2
 go_ret3
 exact ⟨0,0,false,rfl,HD.out,HW.out⟩
end Go.Proofs.YtcmflfkpeodicaaGreat
