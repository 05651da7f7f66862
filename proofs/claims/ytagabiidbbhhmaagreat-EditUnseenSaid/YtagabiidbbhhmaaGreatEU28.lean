/- Part 28. -/
import Derived.Test.YtagabiidbbhhmaaGreatEU27
namespace Go.Proofs.YtagabiidbbhhmaaGreat
set_option maxHeartbeats 25600000
set_option linter.all false
open Go.RowKit
theorem qL {α : Type} (g:Nat -> List α) (n:Nat) (h:∀ i,i < n -> g i <+: g (i+1)):∀ k i,i+k=n -> g i <+: g n:=by
 intro k
 induction k with
 | zero=>intro i e;rw [<-e,eN];exact List.prefix_rfl
 | succ k ih=>intro i e;exact (h i (by omega)).trans (ih (i+1) (by omega))
theorem uR (b:Nat) (ps:List PhiD) {i:Nat} (h:i <= ps.length):phiN b ps i <+: phiN b ps ps.length :=
 qL (phiN b ps) ps.length (fun j hj=>by rw [nC (aB hj)];exact dQ _ _) (ps.length - i) i (by omega)
theorem uS (b:Nat) (xs:List InstrD) {i:Nat} (h:i <= xs.length):codN b xs i <+: codN b xs xs.length :=
 qL (codN b xs) xs.length (fun j hj=>by rw [lU (aB hj)];exact dQ _ _) (xs.length - i) i (by omega)
theorem aCD (f:FuncD) {c:Nat} (h:c <= f.blocks.length):blkN f c <+: blkN f f.blocks.length :=
 qL (blkN f) f.blocks.length (fun j hj=>by rw [kO (aB hj)];exact dQ _ _) (f.blocks.length - c) c (by omega)
theorem uT {f:FuncD} {c:Nat} {x:BlockD} (h:f.blocks[c]? = some x):parN f.params.length ++ (blkN f c ++ entB c x) <+: entF f:=by
 unfold entF
 rw [bV, <-kO h]
 exact aCD f (aD.1 h).1
def NoE (id:Int) (l:List (Int × Int × Int)):Prop := ∀ e ∈ l,e.1 ≠ id
theorem NoE.find {id:Int} {l:List (Int × Int × Int)} (h:NoE id l):(l.find? fun e=>e.1 == id)=none:=by
 rw [List.find?_eq_none];intro x hx;simpa using h x hx
theorem NoE.found {id:Int} {l L:List (Int × Int × Int)} {e:Int × Int × Int} (h:NoE id l) (he:e.1=id) (hp:l ++ [e] <+: L):(L.find? fun e=>e.1 == id)=some e:=by
 obtain ⟨r,rfl⟩:=hp
 rw [bN,List.find?_append,h.find,Option.none_or]
 simp [List.find?_cons,he]
theorem NoE.append {id:Int} {l m:List (Int × Int × Int)} (h:NoE id l) (k:NoE id m):NoE id (l ++ m):=fun e he=>by
 rcases aL.1 he with he | he
 ·exact h e he
 exact k e he
theorem aAF {n:Nat} {id:Int} (h:¬ (0 <= id/\id < (n:Int))):NoE id (parN n):=fun e he hid=>by
 unfold parN at he
 rw [bB] at he
 obtain ⟨j,hj,rfl⟩:=he
 have:=cT.1 hj
 simp at hid
 omega
theorem wY {n:Nat} {id:Int} (h0:0 <= id) (h1:id < (n:Int)) (r:List (Int × Int × Int)):((parN n ++ r).find? fun e=>e.1 == id)=some (id,0, -1):=by
 obtain ⟨k,rfl⟩ : ∃ k:Nat,id=(k:Int):=⟨id.toNat,by omega⟩
 have hk:k < n:=by omega
 refine (aAF (n:=k) (by omega)).found (e:=((k:Int),0, -1)) rfl ?_
 rw [<-pD]
 have:=qL parN n (fun i _=>by rw [pD];exact dQ _ _) (n - (k+1)) (k+1) (by omega)
 exact this.trans (dQ _ _)
def tH (f:FuncD) (id b at_:Int) (ok:Bool):Prop :=
 (∃ e,((entF f).find? fun e=>e.1 == id)=some e/\b=e.2.1/\at_=e.2.2/\ok=true) \/ (((entF f).find? fun e=>e.1 == id)=none/\b=0/\at_=0/\ok=false)
def aGG (f:FuncD) (id:Int) (w:World) (e:Ending) (w' : World):Prop := ∃ (b at_:Int) (ok:Bool),e = .returned (.tuple #[.int .i64 b,.int .i64 at_,.bool ok])/\tH f id b at_ ok/\Below w.heap.size w w'
set_option maxRecDepth 100000 in
theorem aFM {w:World} {v:Value} {f:FuncD} {id:Int} (hv:fP w v f):Calls Tryz.prog 78 #[v,.int .i64 id] w (aGG f id w):=by
 obtain ⟨ap,cp,ab,cb,rfl,hp,ha,hc,hB⟩:=hv.form
 have cF:=hp.le
 obtain ⟨a2,c2,bb,bo,dh,cM,hbm,dd,cn,ct⟩:=eW hB
 cases dh
 obtain ⟨np,ch⟩ : ∃ np,np=f.params.length:=⟨_,rfl⟩
 obtain ⟨nb,cm⟩ : ∃ nb,nb=f.blocks.length:=⟨_,rfl⟩
 rw [<-ch] at cF ⊢
 rw [<-cm] at cM cn dd ⊢
 have bz:=h! cm
 have cw:=h! ch
 have cr:=h! cn
 have cq:=h! ct
 clear hp ha hc hB hv ct ch cm cn
 generalize f.arrays=ar at *
 generalize f.cells=ce at *
 go_enter Tryz.func78,Tryz.ntmps78
 go_upto_region 1 with (fail)
 have cs:=(Below.refl w.heap.size w).alloc (aC _) (.cells #[.slice ap np cp,.int .i64 ar,.int .i64 ce,.slice ab nb cb] 25)
 have HW:=h! cs
 clear cs
 have B1:=h! (Box.new w #[.slice ap np cp,.int .i64 ar,.int .i64 ce,.slice ab nb cb] 25)
 generalize w.alloc (.cells #[.slice ap np cp,.int .i64 ar,.int .i64 ce,.slice ab nb cb] 25)=wv at *
 obtain ⟨lB1,cB1,fB1⟩:=B1.out
 by_cases hpar:0 <= id/\id < (np:Int)
 ·obtain ⟨h0,h1⟩:=hpar
  have HD:Hid (tH f id 0 (-1) true):=h! (.inl ⟨(id,0, -1),by unfold entF;rw [<-cw.out];exact wY h0 h1 _,rfl,rfl,rfl⟩)
  go_wp2
  go_ret3
  exact ⟨0, -1,true,rfl,HD.out,HW.out⟩
 have co:Hid (NoE id (parN f.params.length ++ blkN f 0)):=h! (by
  rw [<-cw.out]
  exact (aAF hpar).append (by intro e he;simp [blkN] at he))
 have bp:id < 0 \/ (0 <= id/\(np:Int) <= id):=by omega
 clear hpar
 rcases bp with aq | ⟨aq,cg⟩
 ·have bv:¬ 0 <= id:=by omega
  clear aq
  go_wp2_with fail
  go_loopw [7] (fun iv wr => ∃ c:Nat,c <= nb/\iv = .int .i64 c/\NoE id (parN f.params.length ++ blkN f c)/\wr=wv) (fun iv _=>nb - (intOf iv).toNat)
  case atStart=>exact ⟨0,aH _,rfl,co.out,rfl⟩
  obtain ⟨c,hc,rfl,hn,rfl⟩:=hrel
  have HN:=h! hn
  clear hn
  by_cases hltb:c < nb
  ·obtain ⟨rfl,cc⟩:=cr.out (by omega)
   obtain ⟨x,an⟩ : ∃ x,f.blocks[c]? = some x:=⟨_,aB (by have:=bz.out;omega)⟩
   obtain ⟨cG,dg,de,dc,df,da,hC⟩:=cq.out c x an
   have ck:=h! (kO an)
   have al:=h! (uT an)
   have bq:=hC.phis
   have bt:=hC.code
   obtain ⟨pl,ad⟩ : ∃ pl,pl=x.phis.length:=⟨_,rfl⟩
   obtain ⟨cl,ay⟩ : ∃ cl,cl=x.code.length:=⟨_,rfl⟩
   obtain ⟨ac,ci,cL,db,aj,bO,cz,ai,bj,br⟩:=fS bt
   obtain ⟨cx,cj,cB,cy,ag,bi,cd,ak,ae,ah⟩:=fH bq
   obtain ⟨k0,k1,k2,k3,k4,k5,q1,q2,q3,q4,q5,q6⟩:=hC.below HW.out cc
   rw [<-ad] at ag bi ak ae k0
   rw [<-ay] at aj bO ai bj k1
   cases ag
   cases aj
   have bf:=h! ad
   have bk:=h! ay
   have az:=h! ae
   have be:=h! ah
   have ba:=h! bj
   have bc:=h! br
   clear ad ay ae ah bj br q1 q2 q3 q4 q5 q6 hC bq bt an k2 k3 k4 k5
   go_wp2_with fail
   go_loopw [8] (fun iv wr' => ∃ i:Nat,i <= pl/\iv = .int .i64 i/\NoE id (parN f.params.length ++ (blkN f c ++ phiN c x.phis i))/\wr' = wr) (fun iv _=>pl - (intOf iv).toNat)
   case atStart=>exact ⟨0,Nat.zero_le _,rfl,by simpa [phiN] using HN.out,rfl⟩
   obtain ⟨i,hi,rfl,hn,rfl⟩:=hrel
   have bh:=h! hn
   clear hn
   by_cases hlt1:i < pl
   ·obtain ⟨rfl,ax⟩:=az.out (by omega)
    obtain ⟨p,bg⟩ : ∃ p,x.phis[i]? = some p:=⟨_,aB (by have:=bf.out;omega)⟩
    obtain ⟨af,av,cf,cv,hP⟩:=be.out i p bg
    obtain ⟨m0,m1,m2,m3,r1,r2,r3,r4⟩:=hP.below HW.out ax
    have bx:=h! (nC (b:=c) bg)
    have bl:Hid (parN f.params.length ++ (blkN f c ++ phiN c x.phis (i+1)) <+: entF f):=h! (by
     refine List.IsPrefix.trans ?_ al.out
     rw [bV,bV]
     unfold entB
     exact (uR c x.phis (by have:=bf.out;omega)).trans (dQ _ _))
    clear m1 m2 m3 r1 r2 r3 r4 hP bg
    by_cases hpid:p.id=id
    ·have HD:Hid (tH f id c (-1) true):=h! (.inl ⟨(p.id,(c:Int), -1),bh.out.found hpid (by have h9:=bl.out;rw [bx.out] at h9;simpa [List.append_assoc] using h9),rfl,rfl,rfl⟩)
     have hq:(p.id == id)=true:=by simp [hpid]
     clear hpid
     go_wp2
     go_ret3
     exact ⟨c, -1,true,rfl,HD.out,HW.out⟩
    have bd:Hid (NoE id (parN f.params.length ++ (blkN f c ++ phiN c x.phis (i+1)))):=h! (by
     rw [bx.out, <-List.append_assoc, <-List.append_assoc]
     refine NoE.append (by rw [bN];exact bh.out) ?_
     intro e he
     simp at he
     subst he
     exact hpid)
    have hq:(p.id == id)=false:=by simp [hpid]
    clear hpid
    go_wp2
    go_roundw
    case rel=>exact ⟨i+1,hlt1,by go_num,bd.out,by first | rfl | trivial⟩
    simp [intOf];omega
   have bs:i=pl:=by omega
   have bd:Hid (NoE id (parN f.params.length ++ (blkN f c ++ (phiN c x.phis x.phis.length ++ codN c x.code 0)))):=h! (by
    have h9:=bh.out
    rw [bs,bf.out] at h9
    simpa [codN] using h9)
   clear bs
   go_wp2_with fail
   go_loopw [9] (fun iv wr'' => ∃ k:Nat,k <= cl/\iv = .int .i64 k/\NoE id (parN f.params.length ++ (blkN f c ++ (phiN c x.phis x.phis.length ++ codN c x.code k)))/\wr'' = wr) (fun iv _=>cl - (intOf iv).toNat)
   case atStart=>exact ⟨0,aH _,rfl,bd.out,rfl⟩
   obtain ⟨k,hk,rfl,hn,rfl⟩:=hrel
   have ao:=h! hn
   clear hn
   by_cases hlt3:k < cl
   ·obtain ⟨rfl,ax⟩:=ba.out (by omega)
    obtain ⟨y,aw⟩ : ∃ y,x.code[k]? = some y:=⟨_,aB (by have:=bk.out;omega)⟩
    obtain ⟨aa,ca,hP⟩:=bc.out k y aw
    obtain ⟨m0,m1,m2,m3,r1,r2,r3,r4⟩:=hP.below HW.out ax
    have bw:=h! (lU (b:=c) aw)
    have bl:Hid (parN f.params.length ++ (blkN f c ++ (phiN c x.phis x.phis.length ++ codN c x.code (k+1))) <+: entF f):=h! (by
     refine List.IsPrefix.trans ?_ al.out
     rw [bV,bV]
     unfold entB
     rw [bV]
     exact uS c x.code (by have:=bk.out;omega))
    clear m0 m2 m3 r1 r2 r3 r4 hP aw
    by_cases hpid:y.id=id
    ·have hq:(y.id == id)=true:=by simp [hpid]
     have am:Hid (NoE id (parN f.params.length ++ (blkN f c ++ (phiN c x.phis x.phis.length ++ codN c x.code (k+1))))):=h! (by
      rw [bw.out,if_neg (by rw [hpid];omega),bY];exact ao.out)
     clear hpid
     go_wp2
     go_roundw
     case rel=>exact ⟨k+1,hlt3,by go_num,am.out,by first | rfl | trivial⟩
     simp [intOf];omega
    have am:Hid (NoE id (parN f.params.length ++ (blkN f c ++ (phiN c x.phis x.phis.length ++ codN c x.code (k+1))))):=h! (by
     rw [bw.out]
     by_cases h8:0 <= y.id
     ·rw [if_pos h8, <-List.append_assoc, <-List.append_assoc, <-List.append_assoc]
      refine NoE.append (by rw [bN,bN];exact ao.out) ?_
      intro e he
      simp at he
      subst he
      exact hpid
     rw [if_neg h8,bY];exact ao.out)
    have hq:(y.id == id)=false:=by simp [hpid]
    clear hpid
    go_wp2
    go_roundw
    case rel=>exact ⟨k+1,hlt3,by go_num,am.out,by first | rfl | trivial⟩
    simp [intOf];omega
   have bm:k=cl:=by omega
   have am:Hid (NoE id (parN f.params.length ++ blkN f (c+1))):=h! (by
    have h9:=ao.out
    rw [bm,bk.out] at h9
    rw [ck.out];exact h9)
   clear bm
   go_wp2
   go_roundw
   case rel=>exact ⟨c+1,hltb,by go_num,am.out,by first | rfl | trivial⟩
   simp [intOf];omega
  have bn:c=nb:=by omega
  have HD:Hid (tH f id 0 0 false):=h! (.inr ⟨NoE.find (by have h9:=HN.out;rw [bn,bz.out] at h9;exact h9),rfl,rfl,rfl⟩)
  clear bn
  go_wp2
  go_ret3
  exact ⟨0,0,false,rfl,HD.out,HW.out⟩
 have bv:0 <= id:=aq
 have hnl:¬ id < (np:Int):=by omega
 clear aq cg
 go_wp2_with fail
 go_loopw [7] (fun iv wr => ∃ c:Nat,c <= nb/\iv = .int .i64 c/\NoE id (parN f.params.length ++ blkN f c)/\wr=wv) (fun iv _=>nb - (intOf iv).toNat)
 case atStart=>exact ⟨0,aH _,rfl,co.out,rfl⟩
 obtain ⟨c,hc,rfl,hn,rfl⟩:=hrel
 have HN:=h! hn
 clear hn
 by_cases hltb:c < nb
 ·obtain ⟨rfl,cc⟩:=cr.out (by omega)
  obtain ⟨x,an⟩ : ∃ x,f.blocks[c]? = some x:=⟨_,aB (by have:=bz.out;omega)⟩
  obtain ⟨cG,dg,de,dc,df,da,hC⟩:=cq.out c x an
  have ck:=h! (kO an)
  have al:=h! (uT an)
  have bq:=hC.phis
  have bt:=hC.code
  obtain ⟨pl,ad⟩ : ∃ pl,pl=x.phis.length:=⟨_,rfl⟩
  obtain ⟨cl,ay⟩ : ∃ cl,cl=x.code.length:=⟨_,rfl⟩
  obtain ⟨ac,ci,cL,db,aj,bO,cz,ai,bj,br⟩:=fS bt
  obtain ⟨cx,cj,cB,cy,ag,bi,cd,ak,ae,ah⟩:=fH bq
  obtain ⟨k0,k1,k2,k3,k4,k5,q1,q2,q3,q4,q5,q6⟩:=hC.below HW.out cc
  rw [<-ad] at ag bi ak ae k0
  rw [<-ay] at aj bO ai bj k1
  cases ag
  cases aj
  have bf:=h! ad
  have bk:=h! ay
  have az:=h! ae
  have be:=h! ah
  have ba:=h! bj
  have bc:=h! br
  clear ad ay ae ah bj br q1 q2 q3 q4 q5 q6 hC bq bt an k2 k3 k4 k5
  go_wp2_with fail
  go_loopw [8] (fun iv wr' => ∃ i:Nat,i <= pl/\iv = .int .i64 i/\NoE id (parN f.params.length ++ (blkN f c ++ phiN c x.phis i))/\wr' = wr) (fun iv _=>pl - (intOf iv).toNat)
  case atStart=>exact ⟨0,Nat.zero_le _,rfl,by simpa [phiN] using HN.out,rfl⟩
  obtain ⟨i,hi,rfl,hn,rfl⟩:=hrel
  have bh:=h! hn
  clear hn
  by_cases hlt1:i < pl
  ·obtain ⟨rfl,ax⟩:=az.out (by omega)
   obtain ⟨p,bg⟩ : ∃ p,x.phis[i]? = some p:=⟨_,aB (by have:=bf.out;omega)⟩
   obtain ⟨af,av,cf,cv,hP⟩:=be.out i p bg
   obtain ⟨m0,m1,m2,m3,r1,r2,r3,r4⟩:=hP.below HW.out ax
   have bx:=h! (nC (b:=c) bg)
   have bl:Hid (parN f.params.length ++ (blkN f c ++ phiN c x.phis (i+1)) <+: entF f):=h! (by
    refine List.IsPrefix.trans ?_ al.out
    rw [bV,bV]
    unfold entB
    exact (uR c x.phis (by have:=bf.out;omega)).trans (dQ _ _))
   clear m1 m2 m3 r1 r2 r3 r4 hP bg
   by_cases hpid:p.id=id
   ·have HD:Hid (tH f id c (-1) true):=h! (.inl ⟨(p.id,(c:Int), -1),bh.out.found hpid (by have h9:=bl.out;rw [bx.out] at h9;simpa [List.append_assoc] using h9),rfl,rfl,rfl⟩)
    have hq:(p.id == id)=true:=by simp [hpid]
    clear hpid
    go_wp2
    go_ret3
    exact ⟨c, -1,true,rfl,HD.out,HW.out⟩
   have bd:Hid (NoE id (parN f.params.length ++ (blkN f c ++ phiN c x.phis (i+1)))):=h! (by
    rw [bx.out, <-List.append_assoc, <-List.append_assoc]
    refine NoE.append (by rw [bN];exact bh.out) ?_
    intro e he
    simp at he
    subst he
    exact hpid)
   have hq:(p.id == id)=false:=by simp [hpid]
   clear hpid
   go_wp2
   go_roundw
   case rel=>exact ⟨i+1,hlt1,by go_num,bd.out,by first | rfl | trivial⟩
   simp [intOf];omega
  have bs:i=pl:=by omega
  have bd:Hid (NoE id (parN f.params.length ++ (blkN f c ++ (phiN c x.phis x.phis.length ++ codN c x.code 0)))):=h! (by
   have h9:=bh.out
   rw [bs,bf.out] at h9
   simpa [codN] using h9)
  clear bs
  go_wp2_with fail
  go_loopw [9] (fun iv wr'' => ∃ k:Nat,k <= cl/\iv = .int .i64 k/\NoE id (parN f.params.length ++ (blkN f c ++ (phiN c x.phis x.phis.length ++ codN c x.code k)))/\wr'' = wr) (fun iv _=>cl - (intOf iv).toNat)
  case atStart=>exact ⟨0,aH _,rfl,bd.out,rfl⟩
  obtain ⟨k,hk,rfl,hn,rfl⟩:=hrel
  have ao:=h! hn
  clear hn
  by_cases hlt3:k < cl
  ·obtain ⟨rfl,ax⟩:=ba.out (by omega)
   obtain ⟨y,aw⟩ : ∃ y,x.code[k]? = some y:=⟨_,aB (by have:=bk.out;omega)⟩
   obtain ⟨aa,ca,hP⟩:=bc.out k y aw
   obtain ⟨m0,m1,m2,m3,r1,r2,r3,r4⟩:=hP.below HW.out ax
   have bw:=h! (lU (b:=c) aw)
   have bl:Hid (parN f.params.length ++ (blkN f c ++ (phiN c x.phis x.phis.length ++ codN c x.code (k+1))) <+: entF f):=h! (by
    refine List.IsPrefix.trans ?_ al.out
    rw [bV,bV]
    unfold entB
    rw [bV]
    exact uS c x.code (by have:=bk.out;omega))
   clear m0 m2 m3 r1 r2 r3 r4 hP aw
   by_cases hpid:y.id=id
   ·have hq:(y.id == id)=true:=by simp [hpid]
    have HD:Hid (tH f id c k true):=h! (.inl ⟨(y.id,(c:Int),(k:Int)),ao.out.found hpid (by have h9:=bl.out;rw [bw.out,if_pos (by rw [hpid];exact bv)] at h9;simpa [List.append_assoc] using h9),rfl,rfl,rfl⟩)
    clear hpid
    go_wp2
    go_ret3
    exact ⟨c,k,true,rfl,HD.out,HW.out⟩
   have am:Hid (NoE id (parN f.params.length ++ (blkN f c ++ (phiN c x.phis x.phis.length ++ codN c x.code (k+1))))):=h! (by
    rw [bw.out]
    by_cases h8:0 <= y.id
    ·rw [if_pos h8, <-List.append_assoc, <-List.append_assoc, <-List.append_assoc]
     refine NoE.append (by rw [bN,bN];exact ao.out) ?_
     intro e he
     simp at he
     subst he
     exact hpid
    rw [if_neg h8,bY];exact ao.out)
   have hq:(y.id == id)=false:=by simp [hpid]
   clear hpid
   go_wp2
   go_roundw
   case rel=>exact ⟨k+1,hlt3,by go_num,am.out,by first | rfl | trivial⟩
   simp [intOf];omega
  have bm:k=cl:=by omega
  have am:Hid (NoE id (parN f.params.length ++ blkN f (c+1))):=h! (by
   have h9:=ao.out
   rw [bm,bk.out] at h9
   rw [ck.out];exact h9)
  clear bm
  go_wp2
  go_roundw
  case rel=>exact ⟨c+1,hltb,by go_num,am.out,by first | rfl | trivial⟩
  simp [intOf];omega
 have bn:c=nb:=by omega
 have HD:Hid (tH f id 0 0 false):=h! (.inr ⟨NoE.find (by have h9:=HN.out;rw [bn,bz.out] at h9;exact h9),rfl,rfl,rfl⟩)
 clear bn
 go_wp2
 go_ret3
 exact ⟨0,0,false,rfl,HD.out,HW.out⟩
section
open Go.RowKit
def kB (f:FuncD) (a b:Nat):Prop:=Way (toB f) (-1) a/\Way (toB f) (-1) b /\ ¬ Way (toB f) (a:Int) b
def aFN (f:FuncD) (v:Value) (w:World) (e:Ending) (w' : World):Prop :=
 Below w.heap.size w w' /\ ((eV f ≠ 0/\e = .returned (.tuple #[.pointer none,.int .i64 (eV f)])) \/
  (eV f=0 /\ ∃ (bt bg lg lcap:Nat) (g:Array Value) (pv ov lv:Value) (O:List Nat) (I:Nat -> Option Nat),e = .returned (.tuple #[.pointer (some ⟨bt,0,none⟩),.int .i64 0])/\v = .agg g/\fT f O/\TreeM f w' bt bg lg lcap g pv ov lv O I/\DomI f O I))
theorem aD7 {w:World} {v:Value} {f:FuncD} (hv:fP w v f):Calls Tryz.prog 84 #[v] w (aFN f v w):=by
 have HV:=h! hv
 obtain ⟨ap,cp,ab,cb,rfl,hp,ha,hc,hB⟩:=hv.form
 clear hp ha hc hB hv
 go_enter Tryz.func84,Tryz.ntmps84
 go_upto_region 1 with (fail)
 have ah:=(Below.refl w.heap.size w).alloc (aC _) (.cells #[.slice ap f.params.length cp,.int .i64 f.arrays,.int .i64 f.cells,.slice ab f.blocks.length cb] 25)
 have HW:=h! ah
 clear ah
 have B1:=h! (Box.new w #[.slice ap f.params.length cp,.int .i64 f.arrays,.int .i64 f.cells,.slice ab f.blocks.length cb] 25)
 generalize w.alloc (.cells #[.slice ap f.params.length cp,.int .i64 f.arrays,.int .i64 f.cells,.slice ab f.blocks.length cb] 25)=wv at *
 obtain ⟨ae,aa,ac⟩:=B1.out
 go_wp2_with fail
 refine (aAQ (HV.out.below HW.out)).mono ?_
 rintro e w2 ⟨hb,⟨ad,rfl⟩ | ⟨ad,bg,O,rfl,hO,hG⟩⟩
 ·have hc1:(eV f != 0)=true:=by simpa using ad
  have af:=h! ad
  clear ad
  clear ae aa ac
  replace B1:=h! (B1.out.later hb)
  replace HW:=h! (HW.out.trans (hb.mono HW.out.size))
  clear hb
  obtain ⟨ae,aa,ac⟩:=B1.out
  go_wp2
  go_ret2
  exact ⟨HW.out,.inl ⟨af.out,rfl⟩⟩
 have af:=h! ad
 have HO:=h! hO
 have HG:=h! hG
 clear ad hO hG
 clear ae aa ac
 replace B1:=h! (B1.out.later hb)
 replace HW:=h! (HW.out.trans (hb.mono HW.out.size))
 clear hb
 obtain ⟨ae,aa,ac⟩:=B1.out
 go_wp2_with fail
 refine (aFR (HV.out.below HW.out) HG.out HO.out (eY af.out).1).mono ?_
 rintro e w3 ⟨bt,lg,ag,g,pv,ov,lv,I,rfl,ai,hT,hD,hb⟩
 have HT:=h! hT
 have HD:=h! hD
 have aj:=h! ai
 clear hT hD ai
 clear ae aa ac
 replace B1:=h! (B1.out.later hb)
 replace HW:=h! (HW.out.trans (hb.mono HW.out.size))
 clear hb
 obtain ⟨ae,aa,ac⟩:=B1.out
 go_wp2
 go_ret2
 exact ⟨HW.out,.inr ⟨af.out,bt,bg,lg,ag,g,pv,ov,lv,O,I,rfl,aj.out,HO.out,HT.out,HD.out⟩⟩
theorem uU {W:World} {f:FuncD} {bt bg lg lcap:Nat} {g:Array Value} {pv ov lv:Value} {O:List Nat} {I:Nat -> Option Nat} (hT:TreeM f W bt bg lg lcap g pv ov lv O I) (hO:fT f O) (hI:DomI f O I) (h512:f.blocks.length <= 512)
  {a b:Nat} (ha:a < f.blocks.length) (hb:b < f.blocks.length) :
  Calls Tryz.prog 143 #[.pointer (some ⟨bt,0,none⟩),.int .i64 a,.int .i64 b] W fun e w' => ∃ r:Bool,e = .returned (.bool r)/\(r=true ↔ kB f a b)/\W=w':=by
 obtain ⟨hc0,aq, -, -,bb⟩:=hT.cells
 obtain ⟨pa,pc,pb,po,ap,ao,hpm,ab,ak⟩:=hT.place.parts
 rw [fR] at ap ao ab
 subst ap
 obtain ⟨lc2, -, -, -,ah,be⟩:=hT.idom.form
 obtain ⟨h1,h2,h3,h4,h5⟩:=hO.facts
 obtain ⟨nb,af⟩ : ∃ nb,nb=f.blocks.length:=⟨_,rfl⟩
 have ac:=ak a (by rw [fR];exact ha)
 have ad:=ak b (by rw [fR];exact hb)
 rw [aN,lP ha,dI] at ac
 rw [aN,lP hb,dI] at ad
 rw [<-af] at aq ao ab ah h512 h3 bb ha hb
 obtain ⟨rfl,hpb⟩:=ab (by omega)
 have ba:=h! ah
 have an:=h! hI.tree
 have ay:=h! (fun (v:Nat) (h:Way (toB f) (-1) v)=>hI.proc h)
 have al:=h! (fun (c v:Nat) (h:Way (toB f) (-1) v)=>hI.anc (c:=c) h)
 have bd:=h! h2
 have ax:=h! h3
 clear hT ak ah be h1 h3 h4 h5 hI hO af ab
 by_cases haO:a ∈ O
 ·rw [if_pos haO] at ac
  have bh:decide (((O.idxOf a:Nat):Int) < 0)=false:=by simp
  by_cases hbO:b ∈ O
  ·rw [if_pos hbO] at ad
   have af:decide (((O.idxOf b:Nat):Int) < 0)=false:=by simp
   have bc:=h! ((h2 a).1 haO)
   have ae:=h! ((h2 b).1 hbO)
   clear h2 haO hbO
   go_enter Tryz.func143,Tryz.ntmps143
   go_wp2_with fail
   clear ac ad bh af
   go_loopw [2] (fun u wr => ∃ b' : Nat,u = .int .i64 b' /\ Way (toB f) (-1) b' /\ (Anc I a b' ↔ Anc I a b)/\W=wr) (fun u _=>O.idxOf (intOf u).toNat)
   case atStart=>exact ⟨b,rfl,ae.out,Iff.rfl,rfl⟩
   obtain ⟨c,rfl,aj,am,rfl⟩:=hrel
   have aw:=h! aj
   have ai:=h! am
   have az:=ax.out c ((bd.out c).2 aj)
   clear aj am
   by_cases hca:c=a
   ·have hq:((c:Int) != (a:Int))=false:=by simp [hca]
    have aa:((a:Int) == (c:Int))=true:=by simp [hca]
    have HR:Hid (kB f a b):=h! ⟨bc.out,ae.out,(al.out a b ae.out).1 (ai.out.1 (by rw [hca];exact .refl))⟩
    have ag:=h! aa
    clear hca aa
    go_wp2
    go_ret
    refine ⟨_,rfl, ?_, ?_⟩
    ·first | exact ⟨fun _=>HR.out,fun _=>ag.out⟩ | simp [HR.out]
    first | rfl | trivial
   have hq:((c:Int) != (a:Int))=true:=by simp;omega
   by_cases hc00:c=0
   ·have aa:((a:Int) == (c:Int))=false:=by simp;omega
    have ag:=h! aa
    clear aa
    have HR:Hid (¬ kB f a b):=h! (fun h=>by
     have h9:=ai.out.2 ((al.out a b ae.out).2 h.2.2)
     rw [hc00] at h9
     exact hca (by rw [hc00,an.out.anc_zero h9]))
    have hcn:¬ 0 < c:=by omega
    clear hca hc00
    go_wp2
    go_ret
    refine ⟨_,rfl, ?_, ?_⟩
    ·first | exact ⟨fun h=>absurd (ag.out.symm.trans h) (by simp),fun h=>absurd h HR.out⟩ | simp [HR.out]
    first | rfl | trivial
   have hgt:0 < c:=by omega
   obtain ⟨p,hp⟩:=eP.1 ((ay.out c aw.out).resolve_left hc00)
   obtain ⟨p1,p2,p3,p4⟩:=an.out.par hp
   have dp:=ba.out c p (lO az hp)
   have bi:=h! p2
   have ar:=h! p3
   have bf:Hid (Anc I a p ↔ Anc I a b):=h! (by
    rw [<-ai.out]
    constructor
    ·exact fun h=>.up hp h
    intro h
    rcases h.parts with e | ⟨q,e,h⟩
    ·exact absurd e.symm hca
    rw [hp] at e;cases e;exact h)
   clear hca hc00 hp p1 p2 p3 p4
   go_wp2
   go_roundw
   case rel=>exact ⟨p,rfl,bi.out,bf.out,by first | rfl | trivial⟩
   have h9:=ar.out
   simp only [intOf,Int.toNat_natCast] at h9 ⊢
   exact h9
  rw [if_neg hbO] at ad
  have HN:Hid (¬ kB f a b):=h! (fun h=>hbO ((h2 b).2 h.2.1))
  clear h2 haO hbO
  go_enter Tryz.func143,Tryz.ntmps143
  go_wp2
  go_ret
  exact ⟨false,rfl,by simpa using HN.out,rfl⟩
 ·rw [if_neg haO] at ac
  have HN:Hid (¬ kB f a b):=h! (fun h=>haO ((h2 a).2 h.1))
  clear h2 haO
  go_enter Tryz.func143,Tryz.ntmps143
  go_wp2
  go_ret
  exact ⟨false,rfl,by simpa using HN.out,rfl⟩
theorem DomI.low {f:FuncD} {O:List Nat} {I:Nat -> Option Nat} (hO:fT f O) (h:DomI f O I) {b p:Nat} (hp:I b=some p):p < f.blocks.length:=by
 obtain ⟨h1,h2,h3,h4,h5⟩:=hO.facts
 exact h3 p ((h2 p).2 (h.tree.par hp).2.1)
end
section
open Go.RowKit
end
section
open Go.RowKit
end
theorem aAG (b:Nat) (xs:List InstrD) (h:∀ y ∈ xs,(0 <= y.id ↔ (shp0 y.op).result ≠ 0)):∀ k,k <= xs.length -> (codN b xs k).map (·.1)=((xs.take k).filter fun y=>(shp0 y.op).result != 0).map (·.id):=by
 intro k
 induction k with
 | zero=>intro _;simp [codN]
 | succ k ih =>
  intro hk
  obtain ⟨y,hy⟩ : ∃ y,xs[k]? = some y:=⟨_,aB (by omega)⟩
  rw [lU hy,eS xs k y hy,bD,dZ,bD,ih (by omega)]
  congr 1
  have h1:=h y (aG hy)
  by_cases h2:0 <= y.id
  ·have h3:=h1.1 h2
   simp [h2,h3]
  have h3:(shp0 y.op).result=0:=Classical.byContradiction fun h4=>h2 (h1.2 h4)
  simp [h2,h3]
theorem aAH (b:Nat) (x:BlockD) (h:∀ y ∈ x.code,(0 <= y.id ↔ (shp0 y.op).result ≠ 0)):(entB b x).map (·.1)=(iU x).map (·.1):=by
 unfold entB iU
 rw [bD,bD,aAG b x.code h _ (aC _)]
 simp [phiN,cO,Function.comp_def]
theorem aAI (f:FuncD) (h:∀ x ∈ f.blocks, ∀ y ∈ x.code,(0 <= y.id ↔ (shp0 y.op).result ≠ 0)):∀ c,c <= f.blocks.length -> (blkN f c).map (·.1)=((f.blocks.take c).flatMap iU).map (·.1):=by
 intro c
 induction c with
 | zero=>intro _;simp [blkN]
 | succ c ih =>
  intro hc
  obtain ⟨x,hx⟩ : ∃ x,f.blocks[c]? = some x:=⟨_,aB (by omega)⟩
  rw [kO hx,eS f.blocks c x hx,bD,List.flatMap_append,bD,ih (by omega),aAH c x (h x (aG hx))]
  simp
theorem uV {f:FuncD} (h:eV f=0):∀ x ∈ f.blocks, ∀ y ∈ x.code,(0 <= y.id ↔ (shp0 y.op).result ≠ 0):=by
 intro x hx y hy
 obtain ⟨h1,h2⟩:=eY h
 obtain ⟨b,hb⟩:=bJ.1 hx
 constructor
 ·intro h0 hr
  unfold gW at h1
  simp only [aK,aZ] at h1
  have h3:=h1.2 (x,b) (by rw [bT];exact hb)
  unfold gA at h3
  simp only [aK,aZ] at h3
  have h4:=h3.1.2 y hy
  unfold fZ at h4
  simp [hr] at h4
  omega
 intro hr
 unfold idsF idsB at h2
 rw [aK,aZ] at h2
 have h3:=h2.2 (y.id,(shp0 y.op).result) (by
  unfold nN
  rw [cU]
  refine ⟨x,hx, ?_⟩
  unfold iU
  rw [aL]
  right
  rw [bB]
  exact ⟨y,List.mem_filter.2 ⟨hy,by simpa using hr⟩,rfl⟩)
 simp at h3
 omega
theorem qM {f:FuncD} (h:eV f=0):(entF f).map (·.1)=(fC f).map (·.1):=by
 unfold entF fC
 rw [bD,bD,nA,aAI f (uV h) _ (aC _),cV]
 congr 1
 simp [parN,cO,Function.comp_def]
theorem aAJ {f:FuncD} (h:eV f=0):((entF f).map (·.1)).Nodup:=by
 rw [qM h]
 have h2:=(eY h).2
 unfold idsF idsB at h2
 rw [aK,decide_eq_true_eq] at h2
 exact h2.1
theorem aAK {f:FuncD} (h:eV f=0) (id:Int):mget (defM (entF f)) id=((entF f).find? fun e=>e.1 == id).map defV:=aCX id _ _ rfl (aAJ h)
theorem tI (w:World):(zeroValue 171).run Tryz.prog w = .ok (.agg #[.int .i64 0,.int .i64 0]) w:=by kernel_rfl
end Go.Proofs.YtagabiidbbhhmaaGreat
