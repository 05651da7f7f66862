/- Part 35. -/
import Derived.Test.YtagabiidbbhhmaaGreatER27
namespace Go.Proofs.YtagabiidbbhhmaaGreat
set_option linter.all false
open Go.RowKit
theorem qS {α : Type} (g:Nat -> List α) (n:Nat) (h:∀ i,i < n -> g i <+: g (i+1)):∀ k i,i+k=n -> g i <+: g n:=by
 intro k
 induction k with
 | zero=>intro i e;rw [<-e,Nat.add_zero];exact List.prefix_rfl
 | succ k ih=>intro i e;exact (h i (by omega)).trans (ih (i+1) (by omega))
theorem vD (b:Nat) (ps:List PhiD) {i:Nat} (h:i <= ps.length):phiN b ps i <+: phiN b ps ps.length :=
 qS (phiN b ps) ps.length (fun j hj=>by rw [nE (aC hj)];exact dT _ _) (ps.length - i) i (by omega)
theorem vE (b:Nat) (xs:List InstrD) {i:Nat} (h:i <= xs.length):codN b xs i <+: codN b xs xs.length :=
 qS (codN b xs) xs.length (fun j hj=>by rw [lV (aC hj)];exact dT _ _) (xs.length - i) i (by omega)
theorem aCN (f:FuncD) {c:Nat} (h:c <= f.blocks.length):blkN f c <+: blkN f f.blocks.length :=
 qS (blkN f) f.blocks.length (fun j hj=>by rw [kR (aC hj)];exact dT _ _) (f.blocks.length - c) c (by omega)
theorem vF {f:FuncD} {c:Nat} {x:BlockD} (h:f.blocks[c]? = some x):parN f.params.length ++ (blkN f c ++ entB c x) <+: entF f:=by
 unfold entF
 rw [bZ, <-kR h]
 exact aCN f (aF.1 h).1
def NoE (id:Int) (l:List (Int × Int × Int)):Prop := ∀ e ∈ l,e.1 ≠ id
theorem NoE.find {id:Int} {l:List (Int × Int × Int)} (h:NoE id l):(l.find? fun e=>e.1 == id)=none:=by
 rw [List.find?_eq_none];intro x hx;simpa using h x hx
theorem NoE.found {id:Int} {l L:List (Int × Int × Int)} {e:Int × Int × Int} (h:NoE id l) (he:e.1=id) (hp:l ++ [e] <+: L):(L.find? fun e=>e.1 == id)=some e:=by
 obtain ⟨r,rfl⟩:=hp
 rw [bQ,List.find?_append,h.find,Option.none_or]
 simp [List.find?_cons,he]
theorem NoE.append {id:Int} {l m:List (Int × Int × Int)} (h:NoE id l) (k:NoE id m):NoE id (l ++ m):=fun e he=>by
 rcases aM.1 he with he | he
 ·exact h e he
 exact k e he
theorem aAJ {n:Nat} {id:Int} (h:¬ (0 <= id/\id < (n:Int))):NoE id (parN n):=fun e he hid=>by
 unfold parN at he
 rw [aX] at he
 obtain ⟨j,hj,rfl⟩:=he
 have:=cS.1 hj
 simp at hid
 omega
theorem xE {n:Nat} {id:Int} (h0:0 <= id) (h1:id < (n:Int)) (r:List (Int × Int × Int)):((parN n ++ r).find? fun e=>e.1 == id)=some (id,0, -1):=by
 obtain ⟨k,rfl⟩ : ∃ k:Nat,id=(k:Int):=⟨id.toNat,by omega⟩
 have hk:k < n:=by omega
 refine (aAJ (n:=k) (by omega)).found (e:=((k:Int),0, -1)) rfl ?_
 rw [<-pF]
 have:=qS parN n (fun i _=>by rw [pF];exact dT _ _) (n - (k+1)) (k+1) (by omega)
 exact this.trans (dT _ _)
def tY (f:FuncD) (id b at_:Int) (ok:Bool):Prop :=
 (∃ e,((entF f).find? fun e=>e.1 == id)=some e/\b=e.2.1/\at_=e.2.2/\ok=true) \/ (((entF f).find? fun e=>e.1 == id)=none/\b=0/\at_=0/\ok=false)
def aGU (f:FuncD) (id:Int) (w:World) (e:Ending) (w' : World):Prop := ∃ (b at_:Int) (ok:Bool),e = .returned (.tuple #[.int .i64 b,.int .i64 at_,.bool ok])/\tY f id b at_ ok/\Below w.heap.size w w'
set_option maxHeartbeats 25600000 in
set_option maxRecDepth 100000 in
theorem aFR {w:World} {v:Value} {f:FuncD} {id:Int} (hv:fU w v f):Calls Tryz.prog 78 #[v,.int .i64 id] w (aGU f id w):=by
 obtain ⟨ap,cp,ab,cb,rfl,hp,ha,hc,hB⟩:=hv.form
 have dh:=hp.le
 obtain ⟨a2,c2,bb,bo,da,cG,hbm,cM,cd,co⟩:=eY hB
 cases da
 obtain ⟨np,ck⟩ : ∃ np,np=f.params.length:=⟨_,rfl⟩
 obtain ⟨nb,ci⟩ : ∃ nb,nb=f.blocks.length:=⟨_,rfl⟩
 rw [<-ck] at dh ⊢
 rw [<-ci] at cG cd cM ⊢
 have bz:=h! ci
 have cq:=h! ck
 have cs:=h! cd
 have cw:=h! co
 clear hp ha hc hB hv co ck ci cd
 generalize f.arrays=ar at *
 generalize f.cells=ce at *
 go_enter Tryz.func78,Tryz.ntmps78
 go_upto_region 1 with (fail)
 have cr:=(Below.refl w.heap.size w).alloc (aB _) (.cells #[.slice ap np cp,.int .i64 ar,.int .i64 ce,.slice ab nb cb] 25)
 have HW:=h! cr
 clear cr
 have B1:=h! (Box.new w #[.slice ap np cp,.int .i64 ar,.int .i64 ce,.slice ab nb cb] 25)
 generalize w.alloc (.cells #[.slice ap np cp,.int .i64 ar,.int .i64 ce,.slice ab nb cb] 25)=wv at *
 obtain ⟨lB1,cB1,fB1⟩:=B1.out
 by_cases hpar:0 <= id/\id < (np:Int)
 ·obtain ⟨h0,h1⟩:=hpar
  have HD:Hid (tY f id 0 (-1) true):=h! (.inl ⟨(id,0, -1),by unfold entF;rw [<-cq.out];exact xE h0 h1 _,rfl,rfl,rfl⟩)
  go_wp2
  go_ret3
  exact ⟨0, -1,true,rfl,HD.out,HW.out⟩
 have ct:Hid (NoE id (parN f.params.length ++ blkN f 0)):=h! (by
  rw [<-cq.out]
  exact (aAJ hpar).append (by intro e he;simp [blkN] at he))
 have bn:id < 0 \/ (0 <= id/\(np:Int) <= id):=by omega
 clear hpar
 rcases bn with aq | ⟨aq,cn⟩
 ·have bp:¬ 0 <= id:=by omega
  clear aq
  go_wp2_with fail
  go_loopw [7] (fun iv wr => ∃ c:Nat,c <= nb/\iv = .int .i64 c/\NoE id (parN f.params.length ++ blkN f c)/\wr=wv) (fun iv _=>nb - (intOf iv).toNat)
  case atStart=>exact ⟨0,aJ _,rfl,ct.out,rfl⟩
  obtain ⟨c,hc,rfl,hn,rfl⟩:=hrel
  have HN:=h! hn
  clear hn
  by_cases hltb:c < nb
  ·obtain ⟨rfl,ch⟩:=cs.out (by omega)
   obtain ⟨x,am⟩ : ∃ x,f.blocks[c]? = some x:=⟨_,aC (by have:=bz.out;omega)⟩
   obtain ⟨cB,cz,dc,de,cF,dg,hC⟩:=cw.out c x am
   have bO:=h! (kR am)
   have ag:=h! (vF am)
   have bm:=hC.phis
   have br:=hC.code
   obtain ⟨pl,ae⟩ : ∃ pl,pl=x.phis.length:=⟨_,rfl⟩
   obtain ⟨cl,ax⟩ : ∃ cl,cl=x.code.length:=⟨_,rfl⟩
   obtain ⟨ac,cc,cx,db,al,cg,dd,ak,be,bt⟩:=fZ br
   obtain ⟨df,cm,cL,cy,ai,bf,cj,aj,ad,ah⟩:=fQ bm
   obtain ⟨k0,k1,k2,k3,k4,k5,q1,q2,q3,q4,q5,q6⟩:=hC.below HW.out ch
   rw [<-ae] at ai bf aj ad k0
   rw [<-ax] at al cg ak be k1
   cases ai
   cases al
   have ay:=h! ae
   have bg:=h! ax
   have bk:=h! ad
   have bj:=h! ah
   have az:=h! be
   have bc:=h! bt
   clear ae ax ad ah be bt q1 q2 q3 q4 q5 q6 hC bm br am k2 k3 k4 k5
   go_wp2_with fail
   go_loopw [8] (fun iv wr' => ∃ i:Nat,i <= pl/\iv = .int .i64 i/\NoE id (parN f.params.length ++ (blkN f c ++ phiN c x.phis i))/\wr' = wr) (fun iv _=>pl - (intOf iv).toNat)
   case atStart=>exact ⟨0,Nat.zero_le _,rfl,by simpa [phiN] using HN.out,rfl⟩
   obtain ⟨i,hi,rfl,hn,rfl⟩:=hrel
   have bd:=h! hn
   clear hn
   by_cases hlt1:i < pl
   ·obtain ⟨rfl,bi⟩:=bk.out (by omega)
    obtain ⟨p,bh⟩ : ∃ p,x.phis[i]? = some p:=⟨_,aC (by have:=ay.out;omega)⟩
    obtain ⟨af,av,cf,cv,hP⟩:=bj.out i p bh
    obtain ⟨m0,m1,m2,m3,r1,r2,r3,r4⟩:=hP.below HW.out bi
    have bq:=h! (nE (b:=c) bh)
    have bl:Hid (parN f.params.length ++ (blkN f c ++ phiN c x.phis (i+1)) <+: entF f):=h! (by
     refine List.IsPrefix.trans ?_ ag.out
     rw [bZ,bZ]
     unfold entB
     exact (vD c x.phis (by have:=ay.out;omega)).trans (dT _ _))
    clear m1 m2 m3 r1 r2 r3 r4 hP bh
    by_cases hpid:p.id=id
    ·have HD:Hid (tY f id c (-1) true):=h! (.inl ⟨(p.id,(c:Int), -1),bd.out.found hpid (by have h9:=bl.out;rw [bq.out] at h9;simpa [List.append_assoc] using h9),rfl,rfl,rfl⟩)
     have hq:(p.id == id)=true:=by simp [hpid]
     clear hpid
     go_wp2
     go_ret3
     exact ⟨c, -1,true,rfl,HD.out,HW.out⟩
    have ba:Hid (NoE id (parN f.params.length ++ (blkN f c ++ phiN c x.phis (i+1)))):=h! (by
     rw [bq.out, <-List.append_assoc, <-List.append_assoc]
     refine NoE.append (by rw [bQ];exact bd.out) ?_
     intro e he
     simp at he
     subst he
     exact hpid)
    have hq:(p.id == id)=false:=by simp [hpid]
    clear hpid
    go_wp2
    go_roundw
    case rel=>exact ⟨i+1,hlt1,by go_num,ba.out,by first | rfl | trivial⟩
    simp [intOf];omega
   have bw:i=pl:=by omega
   have ba:Hid (NoE id (parN f.params.length ++ (blkN f c ++ (phiN c x.phis x.phis.length ++ codN c x.code 0)))):=h! (by
    have h9:=bd.out
    rw [bw,ay.out] at h9
    simpa [codN] using h9)
   clear bw
   go_wp2_with fail
   go_loopw [9] (fun iv wr'' => ∃ k:Nat,k <= cl/\iv = .int .i64 k/\NoE id (parN f.params.length ++ (blkN f c ++ (phiN c x.phis x.phis.length ++ codN c x.code k)))/\wr'' = wr) (fun iv _=>cl - (intOf iv).toNat)
   case atStart=>exact ⟨0,aJ _,rfl,ba.out,rfl⟩
   obtain ⟨k,hk,rfl,hn,rfl⟩:=hrel
   have ao:=h! hn
   clear hn
   by_cases hlt3:k < cl
   ·obtain ⟨rfl,bi⟩:=az.out (by omega)
    obtain ⟨y,aw⟩ : ∃ y,x.code[k]? = some y:=⟨_,aC (by have:=bg.out;omega)⟩
    obtain ⟨aa,ca,hP⟩:=bc.out k y aw
    obtain ⟨m0,m1,m2,m3,r1,r2,r3,r4⟩:=hP.below HW.out bi
    have bs:=h! (lV (b:=c) aw)
    have bl:Hid (parN f.params.length ++ (blkN f c ++ (phiN c x.phis x.phis.length ++ codN c x.code (k+1))) <+: entF f):=h! (by
     refine List.IsPrefix.trans ?_ ag.out
     rw [bZ,bZ]
     unfold entB
     rw [bZ]
     exact vE c x.code (by have:=bg.out;omega))
    clear m0 m2 m3 r1 r2 r3 r4 hP aw
    by_cases hpid:y.id=id
    ·have hq:(y.id == id)=true:=by simp [hpid]
     have an:Hid (NoE id (parN f.params.length ++ (blkN f c ++ (phiN c x.phis x.phis.length ++ codN c x.code (k+1))))):=h! (by
      rw [bs.out,if_neg (by rw [hpid];omega),bY];exact ao.out)
     clear hpid
     go_wp2
     go_roundw
     case rel=>exact ⟨k+1,hlt3,by go_num,an.out,by first | rfl | trivial⟩
     simp [intOf];omega
    have an:Hid (NoE id (parN f.params.length ++ (blkN f c ++ (phiN c x.phis x.phis.length ++ codN c x.code (k+1))))):=h! (by
     rw [bs.out]
     by_cases h8:0 <= y.id
     ·rw [if_pos h8, <-List.append_assoc, <-List.append_assoc, <-List.append_assoc]
      refine NoE.append (by rw [bQ,bQ];exact ao.out) ?_
      intro e he
      simp at he
      subst he
      exact hpid
     rw [if_neg h8,bY];exact ao.out)
    have hq:(y.id == id)=false:=by simp [hpid]
    clear hpid
    go_wp2
    go_roundw
    case rel=>exact ⟨k+1,hlt3,by go_num,an.out,by first | rfl | trivial⟩
    simp [intOf];omega
   have bx:k=cl:=by omega
   have an:Hid (NoE id (parN f.params.length ++ blkN f (c+1))):=h! (by
    have h9:=ao.out
    rw [bx,bg.out] at h9
    rw [bO.out];exact h9)
   clear bx
   go_wp2
   go_roundw
   case rel=>exact ⟨c+1,hltb,by go_num,an.out,by first | rfl | trivial⟩
   simp [intOf];omega
  have bv:c=nb:=by omega
  have HD:Hid (tY f id 0 0 false):=h! (.inr ⟨NoE.find (by have h9:=HN.out;rw [bv,bz.out] at h9;exact h9),rfl,rfl,rfl⟩)
  clear bv
  go_wp2
  go_ret3
  exact ⟨0,0,false,rfl,HD.out,HW.out⟩
 have bp:0 <= id:=aq
 have hnl:¬ id < (np:Int):=by omega
 clear aq cn
 go_wp2_with fail
 go_loopw [7] (fun iv wr => ∃ c:Nat,c <= nb/\iv = .int .i64 c/\NoE id (parN f.params.length ++ blkN f c)/\wr=wv) (fun iv _=>nb - (intOf iv).toNat)
 case atStart=>exact ⟨0,aJ _,rfl,ct.out,rfl⟩
 obtain ⟨c,hc,rfl,hn,rfl⟩:=hrel
 have HN:=h! hn
 clear hn
 by_cases hltb:c < nb
 ·obtain ⟨rfl,ch⟩:=cs.out (by omega)
  obtain ⟨x,am⟩ : ∃ x,f.blocks[c]? = some x:=⟨_,aC (by have:=bz.out;omega)⟩
  obtain ⟨cB,cz,dc,de,cF,dg,hC⟩:=cw.out c x am
  have bO:=h! (kR am)
  have ag:=h! (vF am)
  have bm:=hC.phis
  have br:=hC.code
  obtain ⟨pl,ae⟩ : ∃ pl,pl=x.phis.length:=⟨_,rfl⟩
  obtain ⟨cl,ax⟩ : ∃ cl,cl=x.code.length:=⟨_,rfl⟩
  obtain ⟨ac,cc,cx,db,al,cg,dd,ak,be,bt⟩:=fZ br
  obtain ⟨df,cm,cL,cy,ai,bf,cj,aj,ad,ah⟩:=fQ bm
  obtain ⟨k0,k1,k2,k3,k4,k5,q1,q2,q3,q4,q5,q6⟩:=hC.below HW.out ch
  rw [<-ae] at ai bf aj ad k0
  rw [<-ax] at al cg ak be k1
  cases ai
  cases al
  have ay:=h! ae
  have bg:=h! ax
  have bk:=h! ad
  have bj:=h! ah
  have az:=h! be
  have bc:=h! bt
  clear ae ax ad ah be bt q1 q2 q3 q4 q5 q6 hC bm br am k2 k3 k4 k5
  go_wp2_with fail
  go_loopw [8] (fun iv wr' => ∃ i:Nat,i <= pl/\iv = .int .i64 i/\NoE id (parN f.params.length ++ (blkN f c ++ phiN c x.phis i))/\wr' = wr) (fun iv _=>pl - (intOf iv).toNat)
  case atStart=>exact ⟨0,Nat.zero_le _,rfl,by simpa [phiN] using HN.out,rfl⟩
  obtain ⟨i,hi,rfl,hn,rfl⟩:=hrel
  have bd:=h! hn
  clear hn
  by_cases hlt1:i < pl
  ·obtain ⟨rfl,bi⟩:=bk.out (by omega)
   obtain ⟨p,bh⟩ : ∃ p,x.phis[i]? = some p:=⟨_,aC (by have:=ay.out;omega)⟩
   obtain ⟨af,av,cf,cv,hP⟩:=bj.out i p bh
   obtain ⟨m0,m1,m2,m3,r1,r2,r3,r4⟩:=hP.below HW.out bi
   have bq:=h! (nE (b:=c) bh)
   have bl:Hid (parN f.params.length ++ (blkN f c ++ phiN c x.phis (i+1)) <+: entF f):=h! (by
    refine List.IsPrefix.trans ?_ ag.out
    rw [bZ,bZ]
    unfold entB
    exact (vD c x.phis (by have:=ay.out;omega)).trans (dT _ _))
   clear m1 m2 m3 r1 r2 r3 r4 hP bh
   by_cases hpid:p.id=id
   ·have HD:Hid (tY f id c (-1) true):=h! (.inl ⟨(p.id,(c:Int), -1),bd.out.found hpid (by have h9:=bl.out;rw [bq.out] at h9;simpa [List.append_assoc] using h9),rfl,rfl,rfl⟩)
    have hq:(p.id == id)=true:=by simp [hpid]
    clear hpid
    go_wp2
    go_ret3
    exact ⟨c, -1,true,rfl,HD.out,HW.out⟩
   have ba:Hid (NoE id (parN f.params.length ++ (blkN f c ++ phiN c x.phis (i+1)))):=h! (by
    rw [bq.out, <-List.append_assoc, <-List.append_assoc]
    refine NoE.append (by rw [bQ];exact bd.out) ?_
    intro e he
    simp at he
    subst he
    exact hpid)
   have hq:(p.id == id)=false:=by simp [hpid]
   clear hpid
   go_wp2
   go_roundw
   case rel=>exact ⟨i+1,hlt1,by go_num,ba.out,by first | rfl | trivial⟩
   simp [intOf];omega
  have bw:i=pl:=by omega
  have ba:Hid (NoE id (parN f.params.length ++ (blkN f c ++ (phiN c x.phis x.phis.length ++ codN c x.code 0)))):=h! (by
   have h9:=bd.out
   rw [bw,ay.out] at h9
   simpa [codN] using h9)
  clear bw
  go_wp2_with fail
  go_loopw [9] (fun iv wr'' => ∃ k:Nat,k <= cl/\iv = .int .i64 k/\NoE id (parN f.params.length ++ (blkN f c ++ (phiN c x.phis x.phis.length ++ codN c x.code k)))/\wr'' = wr) (fun iv _=>cl - (intOf iv).toNat)
  case atStart=>exact ⟨0,aJ _,rfl,ba.out,rfl⟩
  obtain ⟨k,hk,rfl,hn,rfl⟩:=hrel
  have ao:=h! hn
  clear hn
  by_cases hlt3:k < cl
  ·obtain ⟨rfl,bi⟩:=az.out (by omega)
   obtain ⟨y,aw⟩ : ∃ y,x.code[k]? = some y:=⟨_,aC (by have:=bg.out;omega)⟩
   obtain ⟨aa,ca,hP⟩:=bc.out k y aw
   obtain ⟨m0,m1,m2,m3,r1,r2,r3,r4⟩:=hP.below HW.out bi
   have bs:=h! (lV (b:=c) aw)
   have bl:Hid (parN f.params.length ++ (blkN f c ++ (phiN c x.phis x.phis.length ++ codN c x.code (k+1))) <+: entF f):=h! (by
    refine List.IsPrefix.trans ?_ ag.out
    rw [bZ,bZ]
    unfold entB
    rw [bZ]
    exact vE c x.code (by have:=bg.out;omega))
   clear m0 m2 m3 r1 r2 r3 r4 hP aw
   by_cases hpid:y.id=id
   ·have hq:(y.id == id)=true:=by simp [hpid]
    have HD:Hid (tY f id c k true):=h! (.inl ⟨(y.id,(c:Int),(k:Int)),ao.out.found hpid (by have h9:=bl.out;rw [bs.out,if_pos (by rw [hpid];exact bp)] at h9;simpa [List.append_assoc] using h9),rfl,rfl,rfl⟩)
    clear hpid
    go_wp2
    go_ret3
    exact ⟨c,k,true,rfl,HD.out,HW.out⟩
   have an:Hid (NoE id (parN f.params.length ++ (blkN f c ++ (phiN c x.phis x.phis.length ++ codN c x.code (k+1))))):=h! (by
    rw [bs.out]
    by_cases h8:0 <= y.id
    ·rw [if_pos h8, <-List.append_assoc, <-List.append_assoc, <-List.append_assoc]
     refine NoE.append (by rw [bQ,bQ];exact ao.out) ?_
     intro e he
     simp at he
     subst he
     exact hpid
    rw [if_neg h8,bY];exact ao.out)
   have hq:(y.id == id)=false:=by simp [hpid]
   clear hpid
   go_wp2
   go_roundw
   case rel=>exact ⟨k+1,hlt3,by go_num,an.out,by first | rfl | trivial⟩
   simp [intOf];omega
  have bx:k=cl:=by omega
  have an:Hid (NoE id (parN f.params.length ++ blkN f (c+1))):=h! (by
   have h9:=ao.out
   rw [bx,bg.out] at h9
   rw [bO.out];exact h9)
  clear bx
  go_wp2
  go_roundw
  case rel=>exact ⟨c+1,hltb,by go_num,an.out,by first | rfl | trivial⟩
  simp [intOf];omega
 have bv:c=nb:=by omega
 have HD:Hid (tY f id 0 0 false):=h! (.inr ⟨NoE.find (by have h9:=HN.out;rw [bv,bz.out] at h9;exact h9),rfl,rfl,rfl⟩)
 clear bv
 go_wp2
 go_ret3
 exact ⟨0,0,false,rfl,HD.out,HW.out⟩
end Go.Proofs.YtagabiidbbhhmaaGreat
