/- Part 27. -/
import Derived.Test.YtagabiidbbhhmaaGreatEU26
namespace Go.Proofs.YtagabiidbbhhmaaGreat
set_option linter.all false
open Go.RowKit
def parN (n:Nat):List (Int × Int × Int):=(List.range n).map fun (j:Nat)=>((j:Int),(0:Int),(-1:Int))
def phiN (b:Nat) (ps:List PhiD) (i:Nat):List (Int × Int × Int):=(ps.take i).map fun p=>(p.id,(b:Int),(-1:Int))
def codN (b:Nat) (xs:List InstrD) (k:Nat):List (Int × Int × Int):=((xs.take k).zipIdx).filterMap fun xj=>if 0 <= xj.1.id then some (xj.1.id,(b:Int),(xj.2:Int)) else none
def entB (b:Nat) (x:BlockD):List (Int × Int × Int):=phiN b x.phis x.phis.length ++ codN b x.code x.code.length
def blkN (f:FuncD) (c:Nat):List (Int × Int × Int):=((f.blocks.take c).zipIdx).flatMap fun xb=>entB xb.2 xb.1
def entF (f:FuncD):List (Int × Int × Int):=parN f.params.length ++ blkN f f.blocks.length
theorem pD (n:Nat):parN (n+1)=parN n ++ [((n:Int),(0:Int),(-1:Int))]:=by simp [parN,eQ]
theorem nC {b:Nat} {ps:List PhiD} {i:Nat} {p:PhiD} (h:ps[i]? = some p):phiN b ps (i+1)=phiN b ps i ++ [(p.id,(b:Int),(-1:Int))]:=by
 simp [phiN,eS ps i p h]
theorem lU {b:Nat} {xs:List InstrD} {k:Nat} {y:InstrD} (h:xs[k]? = some y):codN b xs (k+1)=codN b xs k ++ (if 0 <= y.id then [(y.id,(b:Int),(k:Int))] else []):=by
 have hk:(xs.take k).length=k:=by
  have:=(aD.1 h).1
  rw [aV];omega
 unfold codN
 rw [eS xs k y h,List.zipIdx_append,List.filterMap_append]
 congr 1
 simp only [List.zipIdx_cons,List.zipIdx_nil,List.filterMap_cons,List.filterMap_nil,hk,bH]
 split <;> rename_i h1
 ·split at h1
  ·cases h1
  rename_i h2;rw [if_neg h2]
 split at h1
 ·cases h1;rename_i h2;rw [if_pos h2]
 cases h1
theorem kO {f:FuncD} {c:Nat} {x:BlockD} (h:f.blocks[c]? = some x):blkN f (c+1)=blkN f c ++ entB c x:=by
 have hk:(f.blocks.take c).length=c:=by
  have:=(aD.1 h).1
  rw [aV];omega
 unfold blkN
 rw [eS f.blocks c x h,List.zipIdx_append,List.flatMap_append]
 simp [hk]
def defV (e:Int × Int × Int):Value:=.agg #[.int .i64 e.2.1,.int .i64 e.2.2]
def defM (l:List (Int × Int × Int)):List (Int × Value):=l.foldl (fun m e=>mput m e.1 (defV e)) []
theorem nD (l:List (Int × Int × Int)) (e:Int × Int × Int):defM (l ++ [e])=mput (defM l) e.1 (defV e):=by simp [defM]
theorem aCX (id:Int):∀ (n:Nat) (l:List (Int × Int × Int)),l.length=n -> (l.map (·.1)).Nodup -> mget (defM l) id=(l.find? fun e=>e.1 == id).map defV:=by
 intro n
 induction n with
 | zero=>intro l hl _;rw [bZ hl];rfl
 | succ n ih =>
  intro l hl aa
  obtain ⟨k,e,rfl⟩ : ∃ k e,l=k ++ [e]:=⟨l.dropLast,l.getLast (by intro h;rw [h] at hl;cases hl),(List.dropLast_concat_getLast _).symm⟩
  rw [aI,eG] at hl
  rw [bD,bW] at aa
  rw [nD,oI,ih k (by omega) aa.1,List.find?_append]
  by_cases h:id=e.1
  ·rw [if_pos h]
   have ab:k.find? (fun e=>e.1 == id)=none:=by
    rw [List.find?_eq_none]
    intro x hx ac
    simp only [beq_iff_eq] at ac
    exact aa.2.2 x.1 (bB.2 ⟨x,hx,rfl⟩) e.1 (by simp) (by rw [ac,h])
   rw [ab,Option.none_or]
   simp [List.find?_cons,h]
  rw [if_neg h]
  have ab:[e].find? (fun e=>e.1 == id)=none:=by simp;exact fun h2=>h h2.symm
  rw [ab,Option.or_none]
set_option maxHeartbeats 25600000 in
set_option maxRecDepth 100000 in
theorem xX {w:World} {v:Value} {f:FuncD} (hv:fP w v f):Calls Tryz.prog 86 #[v] w fun e w' => ∃ bm,e = .returned (.map (some bm))/\IMap w' bm (defM (entF f))/\w.heap.size < bm/\Below w.heap.size w w':=by
 obtain ⟨ap,cp,ab,cb,rfl,hp,ha,hc,hB⟩:=hv.form
 have da:=hp.le
 obtain ⟨a2,c2,bb,bo,dl,dd,hbm,di,cm,cz⟩:=eW hB
 cases dl
 obtain ⟨np,cg⟩ : ∃ np,np=f.params.length:=⟨_,rfl⟩
 obtain ⟨nb,cj⟩ : ∃ nb,nb=f.blocks.length:=⟨_,rfl⟩
 rw [<-cg] at da ⊢
 rw [<-cj] at dd cm di ⊢
 have cy:=h! cj
 have dk:=h! cg
 have dc:=h! cm
 have db:=h! cz
 clear hp ha hc hB hv cz cg cj cm
 generalize f.arrays=ar at *
 generalize f.cells=ce at *
 have de:=@run_makeMap Tryz.prog
 go_enter Tryz.func86,Tryz.ntmps86
 go_upto_region 2 with (fail)
 clear de
 have HI:Hid (IMap ((w.alloc (.cells #[.slice ap np cp,.int .i64 ar,.int .i64 ce,.slice ab nb cb] 25)).alloc (.map #[] 0)) (w.heap.size+1) (defM (parN 0))):=h! (by
  have h:=IMap.new (w.alloc (.cells #[.slice ap np cp,.int .i64 ar,.int .i64 ce,.slice ab nb cb] 25))
  simpa [parN,defM] using h)
 have B1:Hid (Box ((w.alloc (.cells #[.slice ap np cp,.int .i64 ar,.int .i64 ce,.slice ab nb cb] 25)).alloc (.map #[] 0)) w.heap.size #[.slice ap np cp,.int .i64 ar,.int .i64 ce,.slice ab nb cb]):=h! ((Box.new w _ _).alloc _)
 have HW:Hid (Below w.heap.size w ((w.alloc (.cells #[.slice ap np cp,.int .i64 ar,.int .i64 ce,.slice ab nb cb] 25)).alloc (.map #[] 0))):=h! (((Below.refl _ _).alloc (aC _) _).alloc (by simp) _)
 generalize ((w.alloc (.cells #[.slice ap np cp,.int .i64 ar,.int .i64 ce,.slice ab nb cb] 25)).alloc (.map #[] 0))=w1 at *
 obtain ⟨bm,ah⟩ : ∃ bm,bm=w.heap.size+1:=⟨_,rfl⟩
 obtain ⟨b1,bl⟩ : ∃ b1,b1=w.heap.size:=⟨_,rfl⟩
 rw [<-ah] at HI
 rw [<-bl] at B1
 have bw:Hid (w.heap.size < bm/\b1 ≠ bm/\w.heap.size <= bm):=h! (by omega)
 simp only [<-ah]
 simp only [<-bl]
 have ck:Hid (∀ wr wr',Below w.heap.size w wr -> Turn [bm] wr wr' -> Below w.heap.size w wr'):=h! (fun wr wr' h1 h2=>h1.trans (h2.below h1.size fun x hx=>by simp at hx;subst hx;exact bw.out.2.2))
 clear ah bl
 obtain ⟨bt,bq,bO⟩:=B1.out
 go_wp2_with fail
 go_loopw [15] (fun i wr => ∃ j:Nat,j <= np/\i = .int .i64 j/\IMap wr bm (defM (parN j))/\Below w.heap.size w wr/\Box wr b1 #[.slice ap np cp,.int .i64 ar,.int .i64 ce,.slice ab nb cb]) (fun i _=>np - (intOf i).toNat)
 case atStart=>exact ⟨0,aH _,rfl,HI.out,HW.out,B1.out⟩
 obtain ⟨j,hj,rfl,hI,hW,aw⟩:=hrel
 clear bt bq bO
 replace HI:=h! hI
 replace HW:=h! hW
 replace B1:=h! aw
 clear hI hW aw
 generalize wr=w2 at *
 by_cases hlt:j < np
 ·go_wp2_with (at_mapUpdate;refine fJ (q:=.i64) (b:=bm) (mm:=defM (parN j)) (y:=j) rfl _ _ _ _ (.inl rfl) Tryz.underlying94 Tryz.underlying3 rfl HI.out rfl ?_;intro w3 ae ay ag;have HP:=h! ae;have ak:=h! ag;clear ae ay ag)
  go_roundw
  case rel=>exact ⟨j+1,hlt,by go_num,by rw [pD,nD];exact HP.out,ck.out _ _ HW.out ak.out,B1.out.turn ak.out (by simp;exact bw.out.2.1)⟩
  simp [intOf];omega
 obtain rfl:j=np:=by omega
 obtain ⟨bt,bq,bO⟩:=B1.out
 go_wp2_with fail
 clear bt bq bO B1
 have cq:Hid (IMap w2 bm (defM (parN j ++ blkN f 0))):=h! (by simpa [blkN] using HI.out)
 go_loopw [25] (fun i wr => ∃ c:Nat,c <= nb/\i = .int .i64 c/\IMap wr bm (defM (parN j ++ blkN f c))/\Below w.heap.size w wr) (fun i _=>nb - (intOf i).toNat)
 case atStart=>exact ⟨0,aH _,rfl,cq.out,HW.out⟩
 obtain ⟨c,hc,rfl,hI,hW⟩:=hrel
 clear cq
 replace HI:=h! hI
 replace HW:=h! hW
 clear hI hW
 generalize wr=wb at *
 by_cases hltb:c < nb
 ·obtain ⟨rfl,cG⟩:=dc.out (by omega)
  obtain ⟨x,ch⟩ : ∃ x,f.blocks[c]? = some x:=⟨_,aB (by have:=cy.out;omega)⟩
  obtain ⟨be,bk,bi,bh,bj,bg,hC⟩:=db.out c x ch
  have dg:=h! (kO ch)
  have aw:=hC.phis
  have ct:=hC.code
  obtain ⟨pl,ai⟩ : ∃ pl,pl=x.phis.length:=⟨_,rfl⟩
  obtain ⟨cl,br⟩ : ∃ cl,cl=x.code.length:=⟨_,rfl⟩
  obtain ⟨ac,capc,bcd,ocd,ba,cF,hcm,ax,co,cr⟩:=fS ct
  obtain ⟨apx,capp,bph,oph,an,cn,hppm,bd,aj,aq⟩:=fH aw
  obtain ⟨k0,k1,k2,k3,k4,k5,q1,q2,q3,q4,q5,q6⟩:=hC.below HW.out cG
  rw [<-ai] at an cn bd aj k0
  rw [<-br] at ba cF ax co k1
  cases an
  cases ba
  have cw:=h! ai
  have cB:=h! br
  have bs:=h! aj
  have cd:=h! aq
  have bv:=h! co
  have bx:=h! cr
  have df:Hid (bm < wb.heap.size):=h! HI.out.lt
  clear ai br aj aq co cr q1 q2 q3 q4 q5 q6 hC aw ct ch
  obtain ⟨E0,bz⟩ : ∃ E0,E0=parN j ++ blkN f c:=⟨_,rfl⟩
  rw [<-bz] at HI
  have cM:=h! bz
  clear bz
  go_upto_region 10 with (fail)
  have ad:=(Below.refl wb.heap.size wb).alloc (aC _) (.cells #[.slice be pl bh,.slice bk cl bj,.int .i64 x.term.op,.int .i64 x.term.val,.slice bi x.term.to.length bg,.int .i64 x.term.n] 63)
  replace HI:=h! (HI.out.later ad)
  replace HW:=h! (HW.out.trans (ad.mono HW.out.size))
  clear ad
  have B5:=h! (Box.new wb #[.slice be pl bh,.slice bk cl bj,.int .i64 x.term.op,.int .i64 x.term.val,.slice bi x.term.to.length bg,.int .i64 x.term.n] 63)
  generalize wb.alloc (.cells #[.slice be pl bh,.slice bk cl bj,.int .i64 x.term.op,.int .i64 x.term.val,.slice bi x.term.to.length bg,.int .i64 x.term.n] 63)=w5 at *
  obtain ⟨al,ao,az⟩:=B5.out
  clear k0 k1 k2 k3 k4 k5
  go_wp2_with fail
  go_loopw [33] (fun i wr => ∃ j1:Nat,j1 <= pl/\i = .int .i64 j1/\IMap wr bm (defM (E0 ++ phiN c x.phis j1))/\Below w.heap.size w wr/\Box wr wb.heap.size #[.slice be pl bh,.slice bk cl bj,.int .i64 x.term.op,.int .i64 x.term.val,.slice bi x.term.to.length bg,.int .i64 x.term.n]) (fun i _=>pl - (intOf i).toNat)
  case atStart=>exact ⟨0,Nat.zero_le _,rfl,by simpa [phiN] using HI.out,HW.out,B5.out⟩
  obtain ⟨j1,hj1,rfl,hI,hW,cs⟩:=hrel
  clear al ao az
  replace HI:=h! hI
  replace HW:=h! hW
  replace B5:=h! cs
  clear hI hW cs
  generalize wr=w7 at *
  obtain ⟨al,ao,az⟩:=B5.out
  by_cases hlt1:j1 < pl
  ·obtain ⟨rfl,bp⟩:=bs.out (by omega)
   obtain ⟨p,ci⟩ : ∃ p,x.phis[j1]? = some p:=⟨_,aB (by have:=cw.out;omega)⟩
   obtain ⟨af,av,cf,cv,hP⟩:=cd.out j1 p ci
   obtain ⟨m0,m1,m2,m3,r1,r2,r3,r4⟩:=hP.below HW.out bp
   have dj:Hid (defM (E0 ++ phiN c x.phis (j1+1))=mput (defM (E0 ++ phiN c x.phis j1)) p.id (.agg #[.int .i64 c,.int .i64 (-1)])):=h! (by rw [nC ci, <-List.append_assoc,nD];rfl)
   clear r1 r2 r3 r4 hP ci
   go_upto_region 13 with (fail)
   have am:w7.heap.size ≠ wb.heap.size:=fun e=>by have:=al;omega
   have nB5B7:wb.heap.size ≠ w7.heap.size:=fun e=>am e.symm
   clear al ao az
   have ad:=(Below.refl w7.heap.size w7).alloc (aC _) (.cells #[.int .i64 p.id,.int .i64 p.typ,.slice af p.src.length cf,.slice av p.vals.length cv] 78)
   replace B5:=h! (B5.out.later ad)
   replace HI:=h! (HI.out.later ad)
   replace HW:=h! (HW.out.trans (ad.mono HW.out.size))
   clear ad
   have B7:=h! (Box.new w7 #[.int .i64 p.id,.int .i64 p.typ,.slice af p.src.length cf,.slice av p.vals.length cv] 78)
   generalize w7.alloc (.cells #[.int .i64 p.id,.int .i64 p.typ,.slice af p.src.length cf,.slice av p.vals.length cv] 78)=w8 at *
   obtain ⟨al,ao,az⟩:=B5.out
   obtain ⟨lB7,cB7,fB7⟩:=B7.out
   clear m0 m1 m2 m3
   go_wp2_with (at_mapUpdate;refine fJ (q:=.i64) (b:=bm) (mm:=defM (E0 ++ phiN c x.phis j1)) (y:=p.id) rfl _ _ _ _ (.inl rfl) Tryz.underlying94 Tryz.underlying3 rfl HI.out rfl ?_;intro w9 ae ay ag;have HP:=h! ae;have ak:=h! ag;clear ae ay ag)
   go_roundw
   case rel=>exact ⟨j1+1,hlt1,by go_num,by rw [dj.out];exact HP.out,ck.out _ _ HW.out ak.out,B5.out.turn ak.out (by simp;have:=df.out;omega)⟩
   simp [intOf];omega
  obtain rfl:j1=pl:=by omega
  obtain ⟨E1,cc⟩ : ∃ E1,E1=E0 ++ phiN c x.phis j1:=⟨_,rfl⟩
  rw [<-cc] at HI
  have dh:=h! cc
  clear cc
  go_wp2_with fail
  go_loopw [46] (fun i wr => ∃ j2:Nat,j2 <= cl/\i = .int .i64 j2/\IMap wr bm (defM (E1 ++ codN c x.code j2))/\Below w.heap.size w wr) (fun i _=>cl - (intOf i).toNat)
  case atStart=>exact ⟨0,Nat.zero_le _,rfl,by simpa [codN] using HI.out,HW.out⟩
  obtain ⟨j2,hj2,rfl,hI,hW⟩:=hrel
  clear al ao az B5
  replace HI:=h! hI
  replace HW:=h! hW
  clear hI hW
  generalize wr=bf at *
  by_cases hlt3:j2 < cl
  ·obtain ⟨rfl,bp⟩:=bv.out (by omega)
   obtain ⟨y,bn⟩ : ∃ y,x.code[j2]? = some y:=⟨_,aB (by have:=cB.out;omega)⟩
   obtain ⟨aa,ca,hP⟩:=bx.out j2 y bn
   obtain ⟨m0,m1,m2,m3,r1,r2,r3,r4⟩:=hP.below HW.out bp
   have cx:=h! (lU (b:=c) bn)
   clear r1 r2 r3 r4 hP bn
   go_upto_region 18 with (fail)
   have ad:=(Below.refl bf.heap.size bf).alloc (aC _) (.cells #[.int .i64 y.op,.int .i64 y.id,.slice aa y.args.length ca,.int .i64 y.n] 82)
   replace HI:=h! (HI.out.later ad)
   replace HW:=h! (HW.out.trans (ad.mono HW.out.size))
   clear ad
   have B8:=h! (Box.new bf #[.int .i64 y.op,.int .i64 y.id,.slice aa y.args.length ca,.int .i64 y.n] 82)
   generalize bf.alloc (.cells #[.int .i64 y.op,.int .i64 y.id,.slice aa y.args.length ca,.int .i64 y.n] 82)=w12 at *
   obtain ⟨lB8,cB8,fB8⟩:=B8.out
   clear m0 m1 m2 m3
   by_cases hid:0 <= y.id
   ·have bc:Hid (defM (E1 ++ codN c x.code (j2+1))=mput (defM (E1 ++ codN c x.code j2)) y.id (.agg #[.int .i64 c,.int .i64 j2])):=h! (by rw [cx.out,if_pos hid, <-List.append_assoc,nD];rfl)
    go_wp2_with (at_mapUpdate;refine fJ (q:=.i64) (b:=bm) (mm:=defM (E1 ++ codN c x.code j2)) (y:=y.id) rfl _ _ _ _ (.inl rfl) Tryz.underlying94 Tryz.underlying3 rfl HI.out rfl ?_;intro w13 ae ay ag;have HP:=h! ae;have ak:=h! ag;clear ae ay ag)
    go_roundw
    case rel=>exact ⟨j2+1,hlt3,by go_num,by rw [bc.out];exact HP.out,ck.out _ _ HW.out ak.out⟩
    simp [intOf];omega
   have bc:Hid (defM (E1 ++ codN c x.code (j2+1))=defM (E1 ++ codN c x.code j2)):=h! (by rw [cx.out,if_neg hid,bY])
   go_wp2
   go_roundw
   case rel=>exact ⟨j2+1,hlt3,by go_num,by rw [bc.out];exact HI.out,HW.out⟩
   simp [intOf];omega
  obtain rfl:j2=cl:=by omega
  have bc:Hid (defM (parN j ++ blkN f (c+1))=defM (E1 ++ codN c x.code j2)):=h! (by rw [dg.out,dh.out,cM.out,cw.out,cB.out];simp [entB])
  go_wp2
  go_roundw
  case rel=>exact ⟨c+1,hltb,by go_num,by rw [bc.out];exact HI.out,HW.out⟩
  simp [intOf];omega
 obtain rfl:c=nb:=by omega
 have cL:Hid (IMap wb bm (defM (entF f))):=h! (by have h9:=HI.out;rw [dk.out,cy.out] at h9;exact h9)
 go_wp2
 go_ret
 exact ⟨bm,rfl,cL.out,bw.out.1,HW.out⟩
end Go.Proofs.YtagabiidbbhhmaaGreat
