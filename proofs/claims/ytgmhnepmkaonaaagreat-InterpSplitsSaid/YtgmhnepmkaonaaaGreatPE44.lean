/- Part 44. -/
import Derived.Test.YtgmhnepmkaonaaaGreatPE43
import Derived.OwnWalk
import Derived.Test.YtgmhnepmkaonaaaGreatPE27
namespace Go.Proofs.YtgmhnepmkaonaaaGreat
set_option maxHeartbeats 25600000
set_option linter.all false
open Go.RowKit
def nZ (W:World) (v:Value) (i:InputD):Prop := ∃ a b,v = .agg #[a,b]/\Ints W a i.args/\kM W b i.arrays
theorem nZ.below {W W' : World} {v:Value} {i:InputD} (h:nZ W v i) (hb:Below W.heap.size W W'):nZ W' v i:=by
 obtain ⟨a,b,e,h1,h2⟩:=h
 exact ⟨a,b,e,h1.below hb,h2.below hb⟩
theorem aIT {w:World} {v:Value} {i:InputD} {n:Nat} (hv:nZ w v i):Calls Tryz.prog 62 #[v,.int .i64 n] w (aEU ((i.arrays.getD n []).take 4096) w):=by
 obtain ⟨a,b,rfl, -,hb⟩:=hv
 obtain ⟨vs,ab,cb,bb,ob,rfl,hc,hm,hm2,hbl,hcells,hints⟩:=hb.parts
 obtain ⟨aa,haa⟩ : ∃ aa,aa=i.arrays:=⟨_,rfl⟩
 rw [<-haa] at hbl hcells hints ⊢
 rw [<-haa] at hc hm2
 obtain ⟨l,hl⟩ : ∃ l,l=aa.length:=⟨_,rfl⟩
 rw [<-hl] at hbl hcells hints hc hm2
 rw [<-hl]
 clear hb haa
 by_cases hlt:n < l
 ·have ht:decide ((l:Int) <= (n:Int))=false:=by simp;omega
  obtain ⟨rfl,hbw⟩:=hbl (by omega)
  have hx:=hcells n hlt
  have hi:=hints n hlt
  obtain ⟨ax,cx,hxe⟩:=hi.form
  rw [hxe] at hx hi
  obtain ⟨xs,hxs⟩ : ∃ xs,xs=aa.getD n []:=⟨_,rfl⟩
  rw [<-hxs] at hx hi ⊢
  obtain ⟨m,hmm⟩ : ∃ m,m=xs.length:=⟨_,rfl⟩
  obtain ⟨ax2,cx2,bx,ox,hxe2,hcm,hcc, -, -⟩:=hi.parts
  cases hxe2
  rw [<-hmm] at hx hi hcm
  have HI:=h! hi
  have HMM:=h! hmm
  have hb64:=hi.le
  rw [<-hmm] at hb64
  clear hcells hints hbl hl hxs hxe hi hmm
  go_enter Tryz.func62,Tryz.ntmps62
  go_upto_region 1 with (fail)
  have hA_:=(Below.refl w.heap.size w).alloc (aB _) (.cells #[a,.slice (some ⟨bb,ob,none⟩) l cb] 44)
  have HW:=h! hA_
  clear hA_
  have B2:=h! (Box.new w #[a,.slice (some ⟨bb,ob,none⟩) l cb] 44)
  generalize w.alloc (.cells #[a,.slice (some ⟨bb,ob,none⟩) l cb] 44)=wv at *
  obtain ⟨lB2,cB2,fB2⟩:=B2.out
  have hx1:=(HW.out.cell (p:=⟨bb,ob+n,none⟩) hbw).trans hx
  clear hx
  obtain ⟨k,hk⟩ : ∃ k,k=min m 4096:=⟨_,rfl⟩
  have hmin:(min (m:Int) 4096).toNat=k:=by omega
  have hkm:k <= m:=by omega
  have HQ:Hid (xs.take 4096=xs.take k):=h! (by
   rw [hk,HMM.out]
   by_cases h4:xs.length <= 4096
   ·rw [dS h4,aJ h4,cT]
   rw [Nat.min_eq_right (by omega)])
  clear hk
  go_upto_region 4 with (fail)
  go_wp2_with fail
  clear lB2 cB2 fB2
  refine (qO ((HI.out.take (k:=k) (by have:=HMM.out;omega)).below HW.out)).mono ?_
  rintro e w2 ⟨u,S,rfl,ho,hf,hb⟩
  have HO:=h! ho
  have HF:=h! hf
  have HB:=h! hb
  clear ho hf hb
  go_wp2
  go_ret
  exact ⟨u,S,rfl,by rw [HQ.out];exact HO.out,fun k hk=>aP HW.out.size (HF.out k hk),HW.out.trans (HB.out.mono HW.out.size)⟩
 have ht:decide ((l:Int) <= (n:Int))=true:=by simp;omega
 have hnil:(aa.getD n []).take 4096=[]:=by rw [aH,aX (by omega)];rfl
 have HN:=h! hnil
 clear hcells hints hbl hl hnil
 go_enter Tryz.func62,Tryz.ntmps62
 go_upto_region 1 with (fail)
 have hA_:=(Below.refl w.heap.size w).alloc (aB _) (.cells #[a,.slice ab l cb] 44)
 have HW:=h! hA_
 clear hA_
 have B2:=h! (Box.new w #[a,.slice ab l cb] 44)
 generalize w.alloc (.cells #[a,.slice ab l cb] 44)=wv at *
 obtain ⟨lB2,cB2,fB2⟩:=B2.out
 go_wp2
 go_ret
 exact ⟨_,Foot.none,rfl,by rw [HN.out];exact eV.nil none,fun k hk=>hk.elim,HW.out⟩
theorem kF.lists {W:World} {S:Foot} {v:Value} {xs:List (List Int)} (h:kF W S v xs):kM W v xs:=by
 obtain ⟨cs,G,F,hp⟩:=h
 have hl:=hp.row.row.len
 refine ⟨cs,by omega,hp.row.row,fun j hj => ?_⟩
 obtain ⟨u,hu,ho⟩:=hp.el j _ (aC hj)
 have hc0:cs[j]? = some u:=by
  have h1:=l6 (cs:=cs) (size:=1) (j:=j) (i:=0) (by omega)
  rw [hu] at h1
  simpa using h1.symm
 have e1:cs.getD j undef=u:=by rw [aH,hc0];rfl
 have e2:xs.getD j []=xs[j]:=by rw [aH,aC hj];rfl
 rw [e1,e2]
 exact ho.ints
theorem MachP.arrs {base bs fuel:Nat} {W W1:World} {bm:Nat} {s:RunS} {ov av vv cv u:Value} {mv:Nat} {m:List (Int × Value)} {F:Nat -> Foot} {G:Foot} {xs:List (List Int)} (h:MachP base bs fuel W bm s ⟨0,0,0⟩ ov av vv cv mv m F) (ho:Off (F 2) W W1) (hG:∀ k,G k -> F 2 k \/ W.heap.size <= k) (hB:base <= W.heap.size)
  (hu:kF W1 G u xs):MachP base bs fuel (W1.setCell ⟨bm,4,none⟩ u) bm { s with arrays:=xs } ⟨0,0,0⟩ ov u vv cv mv m (newF F 2 G):=by
 have hne:∀ j,j ≠ 2 -> (F j).off (F 2):=fun j hj=>h.apart j 2 hj
 have hap:=nO (i:=2) (G:=G) h.apart (fun _ _ hk=>h.lt hk) hG
 have hoff:=Off.set W1 ⟨bm,4,none⟩ u
 have hb0:newF F 2 G 0 bm:=by rw [gN F 2 G (by omega)];exact (h.b0 bm).2 rfl
 have hq:∀ j,j ≠ 0 -> (newF F 2 G j).off (Foot.one bm):=fun j hj k hk e=>hap j 0 hj k hk (by cases e;exact hb0)
 have hq' : ∀ j,j ≠ 0 -> j ≠ 2 -> (F j).off (Foot.one bm):=fun j hj hj1=>by have h9:=hq j hj;rwa [gN F 2 G hj1] at h9
 have hbx:=(h.box.off ho (fun e=>h.apart 0 2 (by omega) _ ((h.b0 _).2 rfl) e)).set 4 u
 refine ⟨hbx,by rw [gN F 2 G (by omega)];exact h.b0, ?_, ?_, ?_, ?_, ?_,h.val, ?_,h.v64,hap, ?_, ?_⟩
 ·rw [gN F 2 G (by omega)];exact (h.out.off ho (hne 1 (by omega))).off hoff (hq' 1 (by omega) (by omega))
 ·have h9:=hq 2 (by omega)
  rw [mH] at h9 ⊢
  exact hu.off OLis.nice hoff h9
 ·rw [gN F 2 G (by omega)];exact (h.vis.off ho (hne 3 (by omega))).off hoff (hq' 3 (by omega) (by omega))
 ·have h9:=h.mp.keep (ho.block _ h.mp.lt (fun hk=>h.apart 4 2 (by omega) _ ((h.m4 _).2 rfl) hk))
  exact h9.keep (hoff.block _ h9.lt (hq' 4 (by omega) (by omega) _ ((h.m4 _).2 rfl)))
 ·rw [gN F 2 G (by omega)];exact h.m4
 ·rw [gN F 2 G (by omega)];exact (h.cel.off ho (hne 5 (by omega))).off hoff (hq' 5 (by omega) (by omega))
 ·intro j k hk
  unfold newF at hk
  by_cases e:j=2
  ·omega
  rw [if_neg e] at hk;exact h.six j k hk
 ·intro j k hk
  unfold newF at hk
  by_cases e:j=2
  ·rw [if_pos e] at hk
   rcases hG k hk with h9 | h9
   ·exact h.base 2 k h9
   omega
  rw [if_neg e] at hk;exact h.base j k hk
theorem GoodS.start {f:FuncD} {i:InputD} {fuel:Nat} (hc:d7 f=0):GoodS f fuel (lQ f i):=by
 refine ⟨?_, ?_,fun a ha => ?_,aO _,aB _,aO _, ?_,fun id ht => ?_⟩
 ·show ((List.range f.arrays.toNat).map _).length=_
  rw [bI,List.length_range]
 ·show (List.replicate _ _).length=_
  rw [aS]
 ·obtain ⟨k, -,rfl⟩:=aZ.1 ha
  rw [bA];omega
 ·show (List.replicate _ _).length=_
  rw [aS]
 show argI f i.args id=0 \/ argI f i.args id=1
 unfold argI
 split
 ·rename_i h
  have hm:(id,f.params.getD id.toNat 0) ∈ eY f:=by
   unfold eY parT
   refine List.mem_append_left _ (aZ.2 ⟨(f.params.getD id.toNat 0,id.toNat), ?_, ?_⟩)
   ·rw [bR]
    exact fI f.params id.toNat (by omega)
   show (((id.toNat:Nat):Int),f.params.getD id.toNat 0)=_
   rw [Int.toNat_of_nonneg h.1]
  rw [mD (nN hc) hm] at ht
  injection ht with ht
  rw [if_pos ht]
  exact kE _
 exact .inl rfl
theorem rK {α : Type} (g:Nat -> List α) (n:Nat) (h:∀ i,i < n -> g i <+: g (i+1)):∀ k i,i+k=n -> g i <+: g n:=by
 intro k
 induction k with
 | zero=>intro i e;rw [<-e,cR];exact List.prefix_rfl
 | succ k ih=>intro i e;exact (h i (by omega)).trans (ih (i+1) (by omega))
theorem vM (b:Nat) (ps:List PhiD) {i:Nat} (h:i <= ps.length):phiN b ps i <+: phiN b ps ps.length :=
 rK (phiN b ps) ps.length (fun j hj=>by rw [mV (aC hj)];exact dX _ _) (ps.length - i) i (by omega)
theorem vN (b:Nat) (xs:List InstrD) {i:Nat} (h:i <= xs.length):codN b xs i <+: codN b xs xs.length :=
 rK (codN b xs) xs.length (fun j hj=>by rw [lK (aC hj)];exact dX _ _) (xs.length - i) i (by omega)
theorem aDZ (f:FuncD) {c:Nat} (h:c <= f.blocks.length):blkN f c <+: blkN f f.blocks.length :=
 rK (blkN f) f.blocks.length (fun j hj=>by rw [jA (aC hj)];exact dX _ _) (f.blocks.length - c) c (by omega)
theorem vO {f:FuncD} {c:Nat} {x:BlockD} (h:f.blocks[c]? = some x):parN f.params.length ++ (blkN f c ++ entB c x) <+: entF f:=by
 unfold entF
 rw [bY, <-jA h]
 exact aDZ f (aD.1 h).1
def NoE (id:Int) (l:List (Int × Int × Int)):Prop := ∀ e ∈ l,e.1 ≠ id
theorem NoE.find {id:Int} {l:List (Int × Int × Int)} (h:NoE id l):(l.find? fun e=>e.1 == id)=none:=by
 rw [List.find?_eq_none];intro x hx;simpa using h x hx
theorem NoE.found {id:Int} {l L:List (Int × Int × Int)} {e:Int × Int × Int} (h:NoE id l) (he:e.1=id) (hp:l ++ [e] <+: L):(L.find? fun e=>e.1 == id)=some e:=by
 obtain ⟨r,rfl⟩:=hp
 rw [bV,List.find?_append,h.find,Option.none_or]
 simp [List.find?_cons,he]
theorem NoE.append {id:Int} {l m:List (Int × Int × Int)} (h:NoE id l) (k:NoE id m):NoE id (l ++ m):=fun e he=>by
 rcases aK.1 he with he | he
 ·exact h e he
 exact k e he
theorem aB8 {n:Nat} {id:Int} (h:¬ (0 <= id/\id < (n:Int))):NoE id (parN n):=fun e he hid=>by
 unfold parN at he
 rw [aZ] at he
 obtain ⟨j,hj,rfl⟩:=he
 have:=cN.1 hj
 simp at hid
 omega
theorem yR {n:Nat} {id:Int} (h0:0 <= id) (h1:id < (n:Int)) (r:List (Int × Int × Int)):((parN n ++ r).find? fun e=>e.1 == id)=some (id,0, -1):=by
 obtain ⟨k,rfl⟩ : ∃ k:Nat,id=(k:Int):=⟨id.toNat,by omega⟩
 have hk:k < n:=by omega
 refine (aB8 (n:=k) (by omega)).found (e:=((k:Int),0, -1)) rfl ?_
 rw [<-oZ]
 have:=rK parN n (fun i _=>by rw [oZ];exact dX _ _) (n - (k+1)) (k+1) (by omega)
 exact this.trans (dX _ _)
def uM (f:FuncD) (id b at_:Int) (ok:Bool):Prop :=
 (∃ e,((entF f).find? fun e=>e.1 == id)=some e/\b=e.2.1/\at_=e.2.2/\ok=true) \/ (((entF f).find? fun e=>e.1 == id)=none/\b=0/\at_=0/\ok=false)
def aIU (f:FuncD) (id:Int) (w:World) (e:Ending) (w' : World):Prop := ∃ (b at_:Int) (ok:Bool),e = .returned (.tuple #[.int .i64 b,.int .i64 at_,.bool ok])/\uM f id b at_ ok/\Below w.heap.size w w'
set_option maxRecDepth 100000 in
theorem aH1 {w:World} {v:Value} {f:FuncD} {id:Int} (hv:gG w v f):Calls Tryz.prog 71 #[v,.int .i64 id] w (aIU f id w):=by
 obtain ⟨ap,cp,ab,cb,rfl,hp,ha,hc,hB⟩:=hv.form
 have hpl:=hp.le
 obtain ⟨a2,c2,bb,bo,hbe,hbc,hbm,hbl,hba,hbx⟩:=fA hB
 cases hbe
 obtain ⟨np,hnp⟩ : ∃ np,np=f.params.length:=⟨_,rfl⟩
 obtain ⟨nb,hnb⟩ : ∃ nb,nb=f.blocks.length:=⟨_,rfl⟩
 rw [<-hnp] at hpl ⊢
 rw [<-hnb] at hbc hba hbl ⊢
 have HNB:=h! hnb
 have HNP:=h! hnp
 have HBA:=h! hba
 have HBX:=h! hbx
 clear hp ha hc hB hv hbx hnp hnb hba
 generalize f.arrays=ar at *
 generalize f.cells=ce at *
 go_enter Tryz.func71,Tryz.ntmps71
 go_upto_region 1 with (fail)
 have hA_:=(Below.refl w.heap.size w).alloc (aB _) (.cells #[.slice ap np cp,.int .i64 ar,.int .i64 ce,.slice ab nb cb] 25)
 have HW:=h! hA_
 clear hA_
 have B1:=h! (Box.new w #[.slice ap np cp,.int .i64 ar,.int .i64 ce,.slice ab nb cb] 25)
 generalize w.alloc (.cells #[.slice ap np cp,.int .i64 ar,.int .i64 ce,.slice ab nb cb] 25)=wv at *
 obtain ⟨lB1,cB1,fB1⟩:=B1.out
 by_cases hpar:0 <= id/\id < (np:Int)
 ·obtain ⟨h0,h1⟩:=hpar
  have HD:Hid (uM f id 0 (-1) true):=h! (.inl ⟨(id,0, -1),by unfold entF;rw [<-HNP.out];exact yR h0 h1 _,rfl,rfl,rfl⟩)
  go_wp2
  go_ret3
  exact ⟨0, -1,true,rfl,HD.out,HW.out⟩
 have HN0:Hid (NoE id (parN f.params.length ++ blkN f 0)):=h! (by
  rw [<-HNP.out]
  exact (aB8 hpar).append (by intro e he;simp [blkN] at he))
 have hcase:id < 0 \/ (0 <= id/\(np:Int) <= id):=by omega
 clear hpar
 rcases hcase with hid0 | ⟨hid0,hid1⟩
 ·have hpos:¬ 0 <= id:=by omega
  clear hid0
  go_wp2_with fail
  go_loopw [7] (fun iv wr => ∃ c:Nat,c <= nb/\iv = .int .i64 c/\NoE id (parN f.params.length ++ blkN f c)/\wr=wv) (fun iv _=>nb - (intOf iv).toNat)
  case atStart=>exact ⟨0,aO _,rfl,HN0.out,rfl⟩
  obtain ⟨c,hc,rfl,hn,rfl⟩:=hrel
  have HN:=h! hn
  clear hn
  by_cases hltb:c < nb
  ·obtain ⟨rfl,hbw⟩:=HBA.out (by omega)
   obtain ⟨x,hjx⟩ : ∃ x,f.blocks[c]? = some x:=⟨_,aC (by have:=HNB.out;omega)⟩
   obtain ⟨api,aii,ati,cpi,cii,cti,hC⟩:=HBX.out c x hjx
   have HSN:=h! (jA hjx)
   have HPRE:=h! (vO hjx)
   have hB1:=hC.phis
   have hB2:=hC.code
   obtain ⟨pl,hpl2⟩ : ∃ pl,pl=x.phis.length:=⟨_,rfl⟩
   obtain ⟨cl,hcl⟩ : ∃ cl,cl=x.code.length:=⟨_,rfl⟩
   obtain ⟨ac,capc,bcd,ocd,hce1,hcc,hcm,hcl16,hca,hcx⟩:=gR hB2
   obtain ⟨apx,capp,bph,oph,hpe1,hppc,hppm,hpl16,hpa2,hpx2⟩:=f9 hB1
   obtain ⟨k0,k1,k2,k3,k4,k5,q1,q2,q3,q4,q5,q6⟩:=hC.below HW.out hbw
   rw [<-hpl2] at hpe1 hppc hpl16 hpa2 k0
   rw [<-hcl] at hce1 hcc hcl16 hca k1
   cases hpe1
   cases hce1
   have HPL:=h! hpl2
   have HCL:=h! hcl
   have HPA2:=h! hpa2
   have HPX2:=h! hpx2
   have HCA2:=h! hca
   have HCX2:=h! hcx
   clear hpl2 hcl hpa2 hpx2 hca hcx q1 q2 q3 q4 q5 q6 hC hB1 hB2 hjx k2 k3 k4 k5
   go_wp2_with fail
   go_loopw [8] (fun iv wr' => ∃ i:Nat,i <= pl/\iv = .int .i64 i/\NoE id (parN f.params.length ++ (blkN f c ++ phiN c x.phis i))/\wr' = wr) (fun iv _=>pl - (intOf iv).toNat)
   case atStart=>exact ⟨0,Nat.zero_le _,rfl,by simpa [phiN] using HN.out,rfl⟩
   obtain ⟨i,hi,rfl,hn,rfl⟩:=hrel
   have HN2:=h! hn
   clear hn
   by_cases hlt1:i < pl
   ·obtain ⟨rfl,hbp⟩:=HPA2.out (by omega)
    obtain ⟨p,hkp⟩ : ∃ p,x.phis[i]? = some p:=⟨_,aC (by have:=HPL.out;omega)⟩
    obtain ⟨af,av,cf,cv,hP⟩:=HPX2.out i p hkp
    obtain ⟨m0,m1,m2,m3,r1,r2,r3,r4⟩:=hP.below HW.out hbp
    have HSP:=h! (mV (b:=c) hkp)
    have HPP:Hid (parN f.params.length ++ (blkN f c ++ phiN c x.phis (i+1)) <+: entF f):=h! (by
     refine List.IsPrefix.trans ?_ HPRE.out
     rw [bY,bY]
     unfold entB
     exact (vM c x.phis (by have:=HPL.out;omega)).trans (dX _ _))
    clear m1 m2 m3 r1 r2 r3 r4 hP hkp
    by_cases hpid:p.id=id
    ·have HD:Hid (uM f id c (-1) true):=h! (.inl ⟨(p.id,(c:Int), -1),HN2.out.found hpid (by have h9:=HPP.out;rw [HSP.out] at h9;simpa [List.append_assoc] using h9),rfl,rfl,rfl⟩)
     have hq:(p.id == id)=true:=by simp [hpid]
     clear hpid
     go_wp2
     go_ret3
     exact ⟨c, -1,true,rfl,HD.out,HW.out⟩
    have HN3:Hid (NoE id (parN f.params.length ++ (blkN f c ++ phiN c x.phis (i+1)))):=h! (by
     rw [HSP.out, <-List.append_assoc, <-List.append_assoc]
     refine NoE.append (by rw [bV];exact HN2.out) ?_
     intro e he
     simp at he
     subst he
     exact hpid)
    have hq:(p.id == id)=false:=by simp [hpid]
    clear hpid
    go_wp2
    go_roundw
    case rel=>exact ⟨i+1,hlt1,by go_num,HN3.out,by first | rfl | trivial⟩
    simp [intOf];omega
   have hip:i=pl:=by omega
   have HN3:Hid (NoE id (parN f.params.length ++ (blkN f c ++ (phiN c x.phis x.phis.length ++ codN c x.code 0)))):=h! (by
    have h9:=HN2.out
    rw [hip,HPL.out] at h9
    simpa [codN] using h9)
   clear hip
   go_wp2_with fail
   go_loopw [9] (fun iv wr'' => ∃ k:Nat,k <= cl/\iv = .int .i64 k/\NoE id (parN f.params.length ++ (blkN f c ++ (phiN c x.phis x.phis.length ++ codN c x.code k)))/\wr'' = wr) (fun iv _=>cl - (intOf iv).toNat)
   case atStart=>exact ⟨0,aO _,rfl,HN3.out,rfl⟩
   obtain ⟨k,hk,rfl,hn,rfl⟩:=hrel
   have HN4:=h! hn
   clear hn
   by_cases hlt3:k < cl
   ·obtain ⟨rfl,hbp⟩:=HCA2.out (by omega)
    obtain ⟨y,hky⟩ : ∃ y,x.code[k]? = some y:=⟨_,aC (by have:=HCL.out;omega)⟩
    obtain ⟨aa,ca,hP⟩:=HCX2.out k y hky
    obtain ⟨m0,m1,m2,m3,r1,r2,r3,r4⟩:=hP.below HW.out hbp
    have HSC:=h! (lK (b:=c) hky)
    have HPP:Hid (parN f.params.length ++ (blkN f c ++ (phiN c x.phis x.phis.length ++ codN c x.code (k+1))) <+: entF f):=h! (by
     refine List.IsPrefix.trans ?_ HPRE.out
     rw [bY,bY]
     unfold entB
     rw [bY]
     exact vN c x.code (by have:=HCL.out;omega))
    clear m0 m2 m3 r1 r2 r3 r4 hP hky
    by_cases hpid:y.id=id
    ·have hq:(y.id == id)=true:=by simp [hpid]
     have HN5:Hid (NoE id (parN f.params.length ++ (blkN f c ++ (phiN c x.phis x.phis.length ++ codN c x.code (k+1))))):=h! (by
      rw [HSC.out,if_neg (by rw [hpid];omega),cJ];exact HN4.out)
     clear hpid
     go_wp2
     go_roundw
     case rel=>exact ⟨k+1,hlt3,by go_num,HN5.out,by first | rfl | trivial⟩
     simp [intOf];omega
    have HN5:Hid (NoE id (parN f.params.length ++ (blkN f c ++ (phiN c x.phis x.phis.length ++ codN c x.code (k+1))))):=h! (by
     rw [HSC.out]
     by_cases h8:0 <= y.id
     ·rw [if_pos h8, <-List.append_assoc, <-List.append_assoc, <-List.append_assoc]
      refine NoE.append (by rw [bV,bV];exact HN4.out) ?_
      intro e he
      simp at he
      subst he
      exact hpid
     rw [if_neg h8,cJ];exact HN4.out)
    have hq:(y.id == id)=false:=by simp [hpid]
    clear hpid
    go_wp2
    go_roundw
    case rel=>exact ⟨k+1,hlt3,by go_num,HN5.out,by first | rfl | trivial⟩
    simp [intOf];omega
   have hkc:k=cl:=by omega
   have HN5:Hid (NoE id (parN f.params.length ++ blkN f (c+1))):=h! (by
    have h9:=HN4.out
    rw [hkc,HCL.out] at h9
    rw [HSN.out];exact h9)
   clear hkc
   go_wp2
   go_roundw
   case rel=>exact ⟨c+1,hltb,by go_num,HN5.out,by first | rfl | trivial⟩
   simp [intOf];omega
  have hcn:c=nb:=by omega
  have HD:Hid (uM f id 0 0 false):=h! (.inr ⟨NoE.find (by have h9:=HN.out;rw [hcn,HNB.out] at h9;exact h9),rfl,rfl,rfl⟩)
  clear hcn
  go_wp2
  go_ret3
  exact ⟨0,0,false,rfl,HD.out,HW.out⟩
 have hpos:0 <= id:=hid0
 have hnl:¬ id < (np:Int):=by omega
 clear hid0 hid1
 go_wp2_with fail
 go_loopw [7] (fun iv wr => ∃ c:Nat,c <= nb/\iv = .int .i64 c/\NoE id (parN f.params.length ++ blkN f c)/\wr=wv) (fun iv _=>nb - (intOf iv).toNat)
 case atStart=>exact ⟨0,aO _,rfl,HN0.out,rfl⟩
 obtain ⟨c,hc,rfl,hn,rfl⟩:=hrel
 have HN:=h! hn
 clear hn
 by_cases hltb:c < nb
 ·obtain ⟨rfl,hbw⟩:=HBA.out (by omega)
  obtain ⟨x,hjx⟩ : ∃ x,f.blocks[c]? = some x:=⟨_,aC (by have:=HNB.out;omega)⟩
  obtain ⟨api,aii,ati,cpi,cii,cti,hC⟩:=HBX.out c x hjx
  have HSN:=h! (jA hjx)
  have HPRE:=h! (vO hjx)
  have hB1:=hC.phis
  have hB2:=hC.code
  obtain ⟨pl,hpl2⟩ : ∃ pl,pl=x.phis.length:=⟨_,rfl⟩
  obtain ⟨cl,hcl⟩ : ∃ cl,cl=x.code.length:=⟨_,rfl⟩
  obtain ⟨ac,capc,bcd,ocd,hce1,hcc,hcm,hcl16,hca,hcx⟩:=gR hB2
  obtain ⟨apx,capp,bph,oph,hpe1,hppc,hppm,hpl16,hpa2,hpx2⟩:=f9 hB1
  obtain ⟨k0,k1,k2,k3,k4,k5,q1,q2,q3,q4,q5,q6⟩:=hC.below HW.out hbw
  rw [<-hpl2] at hpe1 hppc hpl16 hpa2 k0
  rw [<-hcl] at hce1 hcc hcl16 hca k1
  cases hpe1
  cases hce1
  have HPL:=h! hpl2
  have HCL:=h! hcl
  have HPA2:=h! hpa2
  have HPX2:=h! hpx2
  have HCA2:=h! hca
  have HCX2:=h! hcx
  clear hpl2 hcl hpa2 hpx2 hca hcx q1 q2 q3 q4 q5 q6 hC hB1 hB2 hjx k2 k3 k4 k5
  go_wp2_with fail
  go_loopw [8] (fun iv wr' => ∃ i:Nat,i <= pl/\iv = .int .i64 i/\NoE id (parN f.params.length ++ (blkN f c ++ phiN c x.phis i))/\wr' = wr) (fun iv _=>pl - (intOf iv).toNat)
  case atStart=>exact ⟨0,Nat.zero_le _,rfl,by simpa [phiN] using HN.out,rfl⟩
  obtain ⟨i,hi,rfl,hn,rfl⟩:=hrel
  have HN2:=h! hn
  clear hn
  by_cases hlt1:i < pl
  ·obtain ⟨rfl,hbp⟩:=HPA2.out (by omega)
   obtain ⟨p,hkp⟩ : ∃ p,x.phis[i]? = some p:=⟨_,aC (by have:=HPL.out;omega)⟩
   obtain ⟨af,av,cf,cv,hP⟩:=HPX2.out i p hkp
   obtain ⟨m0,m1,m2,m3,r1,r2,r3,r4⟩:=hP.below HW.out hbp
   have HSP:=h! (mV (b:=c) hkp)
   have HPP:Hid (parN f.params.length ++ (blkN f c ++ phiN c x.phis (i+1)) <+: entF f):=h! (by
    refine List.IsPrefix.trans ?_ HPRE.out
    rw [bY,bY]
    unfold entB
    exact (vM c x.phis (by have:=HPL.out;omega)).trans (dX _ _))
   clear m1 m2 m3 r1 r2 r3 r4 hP hkp
   by_cases hpid:p.id=id
   ·have HD:Hid (uM f id c (-1) true):=h! (.inl ⟨(p.id,(c:Int), -1),HN2.out.found hpid (by have h9:=HPP.out;rw [HSP.out] at h9;simpa [List.append_assoc] using h9),rfl,rfl,rfl⟩)
    have hq:(p.id == id)=true:=by simp [hpid]
    clear hpid
    go_wp2
    go_ret3
    exact ⟨c, -1,true,rfl,HD.out,HW.out⟩
   have HN3:Hid (NoE id (parN f.params.length ++ (blkN f c ++ phiN c x.phis (i+1)))):=h! (by
    rw [HSP.out, <-List.append_assoc, <-List.append_assoc]
    refine NoE.append (by rw [bV];exact HN2.out) ?_
    intro e he
    simp at he
    subst he
    exact hpid)
   have hq:(p.id == id)=false:=by simp [hpid]
   clear hpid
   go_wp2
   go_roundw
   case rel=>exact ⟨i+1,hlt1,by go_num,HN3.out,by first | rfl | trivial⟩
   simp [intOf];omega
  have hip:i=pl:=by omega
  have HN3:Hid (NoE id (parN f.params.length ++ (blkN f c ++ (phiN c x.phis x.phis.length ++ codN c x.code 0)))):=h! (by
   have h9:=HN2.out
   rw [hip,HPL.out] at h9
   simpa [codN] using h9)
  clear hip
  go_wp2_with fail
  go_loopw [9] (fun iv wr'' => ∃ k:Nat,k <= cl/\iv = .int .i64 k/\NoE id (parN f.params.length ++ (blkN f c ++ (phiN c x.phis x.phis.length ++ codN c x.code k)))/\wr'' = wr) (fun iv _=>cl - (intOf iv).toNat)
  case atStart=>exact ⟨0,aO _,rfl,HN3.out,rfl⟩
  obtain ⟨k,hk,rfl,hn,rfl⟩:=hrel
  have HN4:=h! hn
  clear hn
  by_cases hlt3:k < cl
  ·obtain ⟨rfl,hbp⟩:=HCA2.out (by omega)
   obtain ⟨y,hky⟩ : ∃ y,x.code[k]? = some y:=⟨_,aC (by have:=HCL.out;omega)⟩
   obtain ⟨aa,ca,hP⟩:=HCX2.out k y hky
   obtain ⟨m0,m1,m2,m3,r1,r2,r3,r4⟩:=hP.below HW.out hbp
   have HSC:=h! (lK (b:=c) hky)
   have HPP:Hid (parN f.params.length ++ (blkN f c ++ (phiN c x.phis x.phis.length ++ codN c x.code (k+1))) <+: entF f):=h! (by
    refine List.IsPrefix.trans ?_ HPRE.out
    rw [bY,bY]
    unfold entB
    rw [bY]
    exact vN c x.code (by have:=HCL.out;omega))
   clear m0 m2 m3 r1 r2 r3 r4 hP hky
   by_cases hpid:y.id=id
   ·have hq:(y.id == id)=true:=by simp [hpid]
    have HD:Hid (uM f id c k true):=h! (.inl ⟨(y.id,(c:Int),(k:Int)),HN4.out.found hpid (by have h9:=HPP.out;rw [HSC.out,if_pos (by rw [hpid];exact hpos)] at h9;simpa [List.append_assoc] using h9),rfl,rfl,rfl⟩)
    clear hpid
    go_wp2
    go_ret3
    exact ⟨c,k,true,rfl,HD.out,HW.out⟩
   have HN5:Hid (NoE id (parN f.params.length ++ (blkN f c ++ (phiN c x.phis x.phis.length ++ codN c x.code (k+1))))):=h! (by
    rw [HSC.out]
    by_cases h8:0 <= y.id
    ·rw [if_pos h8, <-List.append_assoc, <-List.append_assoc, <-List.append_assoc]
     refine NoE.append (by rw [bV,bV];exact HN4.out) ?_
     intro e he
     simp at he
     subst he
     exact hpid
    rw [if_neg h8,cJ];exact HN4.out)
   have hq:(y.id == id)=false:=by simp [hpid]
   clear hpid
   go_wp2
   go_roundw
   case rel=>exact ⟨k+1,hlt3,by go_num,HN5.out,by first | rfl | trivial⟩
   simp [intOf];omega
  have hkc:k=cl:=by omega
  have HN5:Hid (NoE id (parN f.params.length ++ blkN f (c+1))):=h! (by
   have h9:=HN4.out
   rw [hkc,HCL.out] at h9
   rw [HSN.out];exact h9)
  clear hkc
  go_wp2
  go_roundw
  case rel=>exact ⟨c+1,hltb,by go_num,HN5.out,by first | rfl | trivial⟩
  simp [intOf];omega
 have hcn:c=nb:=by omega
 have HD:Hid (uM f id 0 0 false):=h! (.inr ⟨NoE.find (by have h9:=HN.out;rw [hcn,HNB.out] at h9;exact h9),rfl,rfl,rfl⟩)
 clear hcn
 go_wp2
 go_ret3
 exact ⟨0,0,false,rfl,HD.out,HW.out⟩
end Go.Proofs.YtgmhnepmkaonaaaGreat
