/- Part 58. -/
import Derived.Test.YtagabiidbbhhmaaGreatER56
namespace Go.Proofs.YtagabiidbbhhmaaGreat
set_option maxHeartbeats 12800000
set_option linter.all false
section
open Go.RowKit Go.Shelf
theorem aDM:Elem Tryz.prog 76 80 (.agg #[.int .i64 0,.int .i64 0]) 2 16:=lQ Tryz.underlying76 (by kernel_rfl) rfl (by omega)
def refQ (g:Int -> Int) (O:List Nat) (p:PhiD):PhiD := { iD O p with id:=g p.id }
theorem xC (g:Int -> Int) (O:List Nat) (x:BlockD):(⟨(mapB g x).phis.map (refQ g O),(mapB g x).code.map (idX g), { (mapB g x).term with to:=(mapB g x).term.to.map (plO O) }⟩ : BlockD)=refB g O x:=by
 unfold mapB refB
 simp only [cK,BlockD.mk.injEq]
 refine ⟨?_, ?_, ?_⟩
 ·apply bS;intro p _;rfl
 ·apply bS;intro y _;rfl
 unfold mapT
 split <;> rfl
theorem aFQ {O:List Nat} {q:Nat} (hn:O.Nodup) (hq:q ∈ O):idxI (natI O) (q:Int)=plO O (q:Int):=by
 have h1:=bM hq
 have h2:O[O.idxOf q]? = some q:=by rw [aC h1,dI]
 have h3:(natI O)[O.idxOf q]? = some (q:Int):=by unfold natI;rw [aQ,h2];rfl
 rw [qX h3 (fun hm=>by
  unfold natI at hm
  rw [<-List.map_take,aX] at hm
  obtain ⟨b,hb,he⟩:=hm
  have:b=q:=by omega
  subst this
  exact vN hn h2 hb)]
 unfold plO
 rw [dO]
theorem mC (W:World) (b o o2:Nat) (v:Value):(W.setCell ⟨b,o,none⟩ v).frozen? ⟨b,o2,none⟩=W.frozen? ⟨b,o2,none⟩:=by
 unfold World.frozen? World.setCell
 simp only [dD,if_true]
 cases W.heap[b]? with
 | none=>rfl
 | some ob=>cases ob <;> rfl
def put4 (W:World) (g o:Nat) (a b c d:Value):World:=(((W.setCell ⟨g,o,none⟩ a).setCell ⟨g,o+1,none⟩ b).setCell ⟨g,o+2,none⟩ c).setCell ⟨g,o+3,none⟩ d
theorem qR (W:World) (g o:Nat) (a b c d:Value):Off (Foot.one g) W (put4 W g o a b c d) :=
 (((Off.set W ⟨g,o,none⟩ a).trans (Off.set _ ⟨g,o+1,none⟩ b)).trans (Off.set _ ⟨g,o+2,none⟩ c)).trans (Off.set _ ⟨g,o+3,none⟩ d)
theorem xD {W:World} {S:Foot} {v:Value} {ps:List PhiD} (h:fS W S v ps) {j:Nat} {q p:PhiD} (hj:ps[j]? = some q) {g cap:Nat} (hv:v = .slice (some ⟨g,0,none⟩) ps.length cap)
  {a b c d:Value} {Fn:Foot} (hx:OPhi W Fn [a,b,c,d] p) (hF:Fn.off S):fS (put4 W g (j * 4) a b c d) (fun k=>S k \/ Fn k) v (ps.set j p):=by
 obtain ⟨cs,G,F,hp⟩:=h
 have ad:=(aF.1 hj).1
 have hn:0 < ps.length:=by omega
 have hG:G g:=by
  obtain ⟨g',cap',ab,ac, -⟩:=hp.row.addr hn
  rw [hv] at ab;cases ab;exact ac
 have aa:=(((hp.row.set hv hn (j * 4+0) a).set hv hn (j * 4+1) b).set hv hn (j * 4+2) c).set hv hn (j * 4+3) d
 refine ⟨_,G,_,hp.put OPhi.nice hj p (Fj:=Fn) ?_ aa (fun i hi hne => ?_) ?_ ?_ _ (fun k hk=>.inl hk) (fun k hk=>.inr hk) (fun k hk => ?_)⟩
 ·exact (qR W g (j * 4) a b c d).mono fun k _ hk=>.inl (by cases hk;exact hG)
 ·rw [gQ hne (by omega),gQ hne (by omega),gQ hne (by omega),gQ hne (by omega)]
 ·rw [fE (by omega),fE (by omega),fE (by omega),fE (by omega),set4 (sY hp.row.len ad)]
  exact OPhi.nice.off hx (qR W g (j * 4) a b c d) fun k h1 h2=>hF k h1 (by cases h2;exact hp.inG _ hG)
 ·exact fun k hk=>.inr (hF k hk)
 ·simp only [World.setCell,Array.size_modify]
  exact hk.elim (hp.lt k) (hx.lt k)
theorem OBlock.parts2 {W:World} {S:Foot} {cs:List Value} {x:BlockD} (h:OBlock W S cs x) :
  ∃ (ap ai at_:Option Addr) (cp ci ct:Nat) (S1 S2 S3:Foot),cs=[.slice ap x.phis.length cp,.slice ai x.code.length ci,.int .i64 x.term.op,.int .i64 x.term.val,.slice at_ x.term.to.length ct,.int .i64 x.term.n] /\
   fS W S1 (.slice ap x.phis.length cp) x.phis/\gL W S2 (.slice ai x.code.length ci) x.code/\eU W S3 (.slice at_ x.term.to.length ct) x.term.to/\S1.off S2/\S1.off S3/\S2.off S3/\(∀ k,S1 k -> S k)/\(∀ k,S2 k -> S k)/\(∀ k,S3 k -> S k) /\
   ∀ (W' : World) (Sp:Foot) (ps:List PhiD) (ys:List InstrD) (to:List Int),fS W' Sp (.slice ap x.phis.length cp) ps -> gL W' S2 (.slice ai x.code.length ci) ys -> eU W' S3 (.slice at_ x.term.to.length ct) to -> Sp.off S2 -> Sp.off S3 -> W.heap.size <= W'.heap.size ->
    OBlock W' (fun k=>S k \/ Sp k) [.slice ap x.phis.length cp,.slice ai x.code.length ci,.int .i64 x.term.op,.int .i64 x.term.val,.slice at_ x.term.to.length ct,.int .i64 x.term.n] ⟨ps,ys, { x.term with to:=to }⟩:=by
 obtain ⟨⟨pv,uv,t,S1,S2,S3,rfl,h1,h2,h3,ac,ad,aa,i1,i2,i3⟩,hl⟩:=h
 obtain ⟨⟨tv,rfl,ab⟩,q1,q2,q3⟩:=h3
 obtain ⟨ap,cp,rfl⟩:=(h1.reads (R0:=PhiR) fun _ _ _ h=>h.reads).form
 obtain ⟨ai,ci,rfl⟩:=(h2.reads (R0:=iB) fun _ _ _ h=>h.reads).form
 obtain ⟨at_,ct,rfl⟩:=ab.ints.form
 refine ⟨ap,ai,at_,cp,ci,ct,S1,S2,S3,rfl,h1,h2,ab,ac,ad,aa,i1,i2,i3,fun W' Sp ps ys to hp hc ht n2 n3 hs => ?_⟩
 exact ⟨⟨_,_,_,Sp,S2,S3,rfl,hp,hc,⟨⟨_,rfl,ht⟩,q1,q2,q3⟩,n2,n3,aa,fun k h=>.inr h,fun k h=>.inl (i2 k h),fun k h=>.inl (i3 k h)⟩,fun k hk=>hk.elim (fun h=>aY (hl k h) hs) (hp.lt k)⟩
theorem mZ {w w2 W:World} {bs:List Nat} (h1:Below w.heap.size w w2) (h2:Below w.heap.size w W) (h3:Holds bs 0 W (fun k=>k < w2.heap.size) (OldK w2)):Below w2.heap.size w2 W :=
 ⟨h2.os.trans h1.os.symm,h2.tape.trans h1.tape.symm,h2.output.trans h1.output.symm,Nat.le_of_not_lt fun h=>by have:=h3.lt W.heap.size h;omega,fun k hk=>h3.now k hk⟩
private theorem gA.alloc {w0 W:World} (h:gA w0 W) (o:Obj):gA w0 (W.alloc o):=h.later ((Below.refl _ _).alloc (aB _) o)
set_option maxHeartbeats 25600000 in
set_option maxRecDepth 100000 in
theorem sN {w:World} {v:Value} {f:FuncD} (hv:fU w v f):Calls Tryz.prog 12 #[v] w (RenR f w):=by
 have HV:=h! hv
 obtain ⟨ap,cp,ab,cb,rfl,hp,ha,hc,hB⟩:=hv.form
 obtain ⟨a2,c2,bb,bo,oj,gz,hbm,kt,lr,mm⟩:=eY hB
 cases oj
 obtain ⟨np,jr⟩ : ∃ np,np=f.params.length:=⟨_,rfl⟩
 obtain ⟨ar,jm⟩ : ∃ ar,ar=f.arrays:=⟨_,rfl⟩
 obtain ⟨ce,jo⟩ : ∃ ce,ce=f.cells:=⟨_,rfl⟩
 obtain ⟨nb,hR⟩ : ∃ nb,nb=f.blocks.length:=⟨_,rfl⟩
 rw [<-hR, <-jr, <-jm, <-jo] at HV
 rw [<-hR] at gz lr kt
 rw [<-hR, <-jr, <-jm, <-jo]
 have ld:=h! hR
 have jp:=h! jr
 have jb:Hid (ar=f.arrays/\ce=f.cells):=h! ⟨jm,jo⟩
 have nk:=h! lr
 have nc:=h! mm
 clear hp ha hc hB hv mm jr hR lr jm jo
 go_enter Tryz.func12,Tryz.ntmps12
 go_upto_region 1 with (fail)
 have cm:=(Below.refl w.heap.size w).alloc (aB _) (.cells #[.slice ap np cp,.int .i64 ar,.int .i64 ce,.slice ab nb cb] 25)
 have HW:=h! cm
 clear cm
 have B1:=h! (Box.new w #[.slice ap np cp,.int .i64 ar,.int .i64 ce,.slice ab nb cb] 25)
 have gm:(w.alloc (.cells #[.slice ap np cp,.int .i64 ar,.int .i64 ce,.slice ab nb cb] 25)).heap.size=w.heap.size+1:=World.size_alloc _ _
 generalize w.alloc (.cells #[.slice ap np cp,.int .i64 ar,.int .i64 ce,.slice ab nb cb] 25)=it at *
 have cm:=(Below.refl it.heap.size it).alloc (aB _) (.cells #[.slice none 0 0,.int .i64 0,.int .i64 0,.slice none 0 0] 25)
 replace B1:=h! (B1.out.later cm)
 replace HW:=h! (HW.out.trans (cm.mono HW.out.size))
 clear cm
 have B2:=h! (Box.new it #[.slice none 0 0,.int .i64 0,.int .i64 0,.slice none 0 0] 25)
 rw [gm] at B2
 clear gm
 generalize it.alloc (.cells #[.slice none 0 0,.int .i64 0,.int .i64 0,.slice none 0 0] 25)=wv at *
 obtain ⟨ai,am,ao⟩:=B1.out
 obtain ⟨aj,an,al⟩:=B2.out
 go_wp2_with fail
 refine (zG (HV.out.below HW.out)).mono ?_
 rintro e w1 ⟨bq,g,rfl,h1,h2,hb⟩
 have HS:=h! (SErr.of_check h1 h2)
 clear h1 h2
 clear ai am ao aj an al
 replace B1:=h! (B1.out.later hb)
 replace B2:=h! (B2.out.later hb)
 replace HW:=h! (HW.out.trans (hb.mono HW.out.size))
 clear hb
 obtain ⟨ai,am,ao⟩:=B1.out
 obtain ⟨aj,an,al⟩:=B2.out
 by_cases hg:g=0
 rotate_left
 ·have kx:Hid (RenP f xP g):=h! ⟨g,HS.out,.inl ⟨hg,rfl,rfl⟩⟩
  have hc1:(g != 0)=true:=by simpa using hg
  clear hg
  go_wp2
  clear ai am ao aj an al
  have bx:=((((Only.set w1 (w.heap.size+1) 0 (.slice none 0 0)).put 1 (.int .i64 0)).put 2 (.int .i64 0)).put 3 (.slice none 0 0))
  replace B1:=h! (B1.out.only bx (by first | assumption | (simp;done) | omega))
  replace HW:=h! (bx.2.2 HW.out (by first | assumption | omega | (have:=HW.out.size;omega) | (simp;done) | (simp;omega)))
  replace B2:=h! (Box.to (A':=#[(.slice none 0 0),(.int .i64 0),(.int .i64 0),(.slice none 0 0)]) ((((B2.out.set 0 (.slice none 0 0)).set 1 (.int .i64 0)).set 2 (.int .i64 0)).set 3 (.slice none 0 0)) (by first | rfl | simp))
  clear bx
  generalize ((((w1.setCell ⟨w.heap.size+1,0,none⟩ (.slice none 0 0)).setCell ⟨w.heap.size+1,1,none⟩ (.int .i64 0)).setCell ⟨w.heap.size+1,2,none⟩ (.int .i64 0)).setCell ⟨w.heap.size+1,3,none⟩ (.slice none 0 0))=wz at *
  obtain ⟨ai,am,ao⟩:=B1.out
  obtain ⟨aj,an,al⟩:=B2.out
  refine bodyPost_ret (v:=.tuple #[.agg #[.slice none 0 0,.int .i64 0,.int .i64 0,.slice none 0 0],.int .i64 g]) (by simp [results,Tryz.results12,go_sem, *]) rfl ⟨xP,g,_,Foot.none,kx.out,rfl,OFunc.zero,fun _ h=>h.elim,HW.out⟩
 subst hg
 have HZ:=h! HS.out.zero
 have HSZ:=h! (mN HZ.out.1)
 go_wp2_with fail
 refine (aB2 (HV.out.below HW.out) (fC HZ.out.1).1).mono ?_
 rintro e w2 ⟨ov,O,rfl,hO,je,hb⟩
 obtain ⟨oa,oc,ob,oo,rfl,py,hom,ks,kp⟩:=je.parts
 obtain ⟨no,fe⟩ : ∃ n,n=O.length:=⟨_,rfl⟩
 rw [fT, <-fe] at py ks kp je
 rw [fT, <-fe]
 have dp:=h! (mS HZ.out.2)
 have nv:=nD hO dp.out 0 (by have:=(iE (fC HZ.out.1).1).1;omega)
 have hno1:1 <= no:=by rw [fe];exact List.length_pos_of_mem nv
 have hno2:no <= 512:=by rw [fe];exact bE hO.le (iE (fC HZ.out.1).1).2
 obtain ⟨rfl,ji⟩:=ks (by omega)
 have mo:Hid (∀ (i b:Nat),O[i]? = some b -> w2.cell? ⟨ob,oo+i,none⟩=some (.int .i64 (b:Int))):=h! (fun i b hi=>by
  rw [kp i (by rw [fe];exact (aF.1 hi).1)]
  rw [getD_some (x:=(b:Int)) (by unfold natI;rw [aQ,hi];rfl)])
 have fw:=h! fe
 have HO:=h! hO
 have pr:=h! je
 have ki:Hid (np+(idsO f O).length <= 4112):=h! (by rw [jp.out];exact pC HZ.out.1 hO dp.out)
 have fy:Hid (∀ j,(idsO f (O.take j)).length <= (idsO f O).length):=h! (fun j=>aFZ j)
 clear hO je fe nv ks kp
 clear ai am ao aj an al
 replace B1:=h! (B1.out.later hb)
 replace B2:=h! (B2.out.later hb)
 replace HW:=h! (HW.out.trans (hb.mono HW.out.size))
 clear hb
 obtain ⟨ai,am,ao⟩:=B1.out
 obtain ⟨aj,an,al⟩:=B2.out
 have gy:Hid (Below w.heap.size w w2):=HW
 have ad:Hid (Holds [] 0 w2 (fun k=>k < w2.heap.size) (OldK w2)):=h! (pB w2)
 go_wp2_with fail
 have ay:Hid (Own (w2.alloc (.cells #[] 80)) w2.heap.size [w.heap.size,w.heap.size+1] 80 2 (.slice (some ⟨w2.heap.size,0,none⟩) 0 0) 0 []):=h! (kE (aB _) (by intro b hb;simp at hb;omega) 2)
 have hl:=(Below.refl w2.heap.size w2).alloc (aB _) (.cells #[] 80)
 clear ai am ao aj an al
 replace B1:=h! (B1.out.later hl)
 replace B2:=h! (B2.out.later hl)
 replace ad:=h! (ad.out.later hl)
 replace HW:=h! (HW.out.trans (hl.mono HW.out.size))
 clear hl
 obtain ⟨ai,am,ao⟩:=B1.out
 obtain ⟨aj,an,al⟩:=B2.out
 generalize w2.alloc _=wa at *
 clear ai am ao aj an al
 go_loopw [7,8,9] (fun u c i wr => ∃ j:Nat,j <= no/\i = .int .i64 j/\c = .int .i64 ((np+(idsO f (O.take j)).length:Nat):Int)/\Own wr w2.heap.size [w.heap.size,w.heap.size+1] 80 2 u (idsO f (O.take j)).length (iH (fP np (idsO f (O.take j))))/\Holds [] 0 wr (fun k=>k < w2.heap.size) (OldK w2)/\Below w.heap.size w wr/\Box wr w.heap.size #[.slice ap np cp,.int .i64 ar,.int .i64 ce,.slice ab nb cb]/\Box wr (w.heap.size+1) #[.slice none 0 0,.int .i64 0,.int .i64 0,.slice none 0 0]) (fun _ _ i _=>no - (intOf i).toNat)
 case atStart=>exact ⟨0,aJ _,rfl,rfl,ay.out,ad.out,HW.out,B1.out,B2.out⟩
 obtain ⟨j,hj,rfl,rfl,cg,az,hW,h1,h2⟩:=hrel
 obtain ⟨L,hL⟩ : ∃ L,L=idsO f (O.take j):=⟨_,rfl⟩
 rw [<-hL] at cg ⊢
 obtain ⟨pa,pc,rfl⟩:=cg.form
 replace ay:=h! cg
 replace ad:=h! az
 replace HW:=h! hW
 replace B1:=h! h1
 replace B2:=h! h2
 have HL:=h! hL
 have pw:np+L.length <= 4112:=by rw [hL];have:=fy.out j;have:=ki.out;omega
 clear cg az hW h1 h2 hL
 generalize wr=wb at *
 by_cases kg:j < no
 ·obtain ⟨b,dz⟩ : ∃ b,O[j]? = some b:=⟨_,aC (by rw [<-fw.out];exact kg)⟩
  --@H
  have db:b < f.blocks.length:=HO.out.facts.2.2.1 b (aG dz)
  have kt:b < nb:=by rw [ld.out];exact db
  obtain ⟨rfl,ij⟩:=nk.out (by omega)
  obtain ⟨x,hx⟩ : ∃ x,f.blocks[b]? = some x:=⟨_,aC db⟩
  obtain ⟨dh,dg,dd,de,di,df,hC⟩:=nc.out b x hx
  have HC:=h! hC
  have gk:=hC.phis
  have gd:=hC.code
  obtain ⟨pl,lm⟩ : ∃ pl,pl=x.phis.length:=⟨_,rfl⟩
  obtain ⟨cl,kj⟩ : ∃ cl,cl=x.code.length:=⟨_,rfl⟩
  obtain ⟨ac,capc,bcd,ocd,lG,ow,hcm,hX,lc,ni⟩:=fZ gd
  obtain ⟨apx,capp,bph,oph,lo,li,hppm,gx,fd,gf⟩:=fQ gk
  rw [<-lm] at li gx fd
  rw [<-kj] at ow hX lc
  cases lo
  cases lG
  have lp:=h! lm
  have ka:=h! kj
  have lM:=h! fd
  have lL:=h! gf
  have lq:=h! lc
  have la:=h! ni
  have dm:Hid (idsO f (O.take (j+1))=L ++ (fH x.phis ++ fD x.code)):=h! (by rw [rA dz,jS hx,pD,HL.out])
  have gw:np+(L ++ (fH x.phis ++ fD x.code)).length <= 4112:=by rw [<-dm.out];have:=fy.out (j+1);have:=ki.out;omega
  have ip:Hid (∀ k,np+(L ++ fH (x.phis.take k)).length <= 4112 /\ ∀ k2,np+(L ++ fH x.phis ++ fD (x.code.take k2)).length <= 4112):=h! (fun k=>by
   rw [aI,aI] at gw
   refine ⟨?_,fun k2 => ?_⟩
   ·rw [aI]
    have:(fH (x.phis.take k)).length <= (fH x.phis).length:=by unfold fH;rw [aW,aW,aV];omega
    omega
   rw [aI,aI]
   have:(fD (x.code.take k2)).length <= (fD x.code).length:=by
    unfold fD
    rw [aW,aW]
    exact (List.Sublist.filter _ (List.take_sublist k2 x.code)).length_le
   omega)
  have hI:=h! ((ad.out.now.cell (o:=oo+j) ji).trans (mo.out j b dz))
  have ed:ob < wb.heap.size:=by
   have h9:=ad.out.lt ob ji
   exact h9
  have gi:=ay
  have ek:=ad
  have gp:=HW
  have kk:w.heap.size+1 < wb.heap.size:=B2.out.lt
  clear gk gd hC hx dz lm kj fd gf lc ni gw ay ad
  obtain ⟨ai,am,ao⟩:=B1.out
  obtain ⟨aj,an,al⟩:=B2.out
  go_upto_region 10 with (fail)
  refine wp_region_grow 9 (fun kz=>match kz with | 8=>.made wb.heap.size (fun b=>.pointer (some ⟨b,0,none⟩)) #[.slice none 0 0,.slice none 0 0,.int .i64 0,.int .i64 0,.slice none 0 0,.int .i64 0] | _=>.plain) (by kernel_rfl) (by kernel_rfl) ?_ (fun ν => ?_)
  ·(intro k;(try dsimp only);split <;> first | exact True.intro | (intro u w1 w2 hu hb;exact hu.below hb))
  simp only [aO,aS,aP,aU]
  iterate 8 (refine Grow.val (v := ?_) rfl rfl (fun wg hbg hdg => ?_) ?_;rotate_left;(focus ((obtain ⟨cB,cF,da⟩:=B1.out.later hbg);(obtain ⟨ol,pz,ok⟩:=B2.out.later hbg);(have ko:=(hbg.cell (p:=⟨ob,oo+j,none⟩) ed).trans hI.out;obtain ⟨k0,k1,k2,k3,k4,k5, -, -, -, -, -, -⟩:=HC.out.below (gp.out.trans (hbg.mono gp.out.size)) ij);clear hbg hdg;first | (go_simp;done) | (go_simp;with_reducible rfl)));simp only [Act.put,aA,aD,aE])
  refine Grow.made (T := ?_) rfl rfl (fun wg hbg hdg => ?_) ?_
  rotate_left
  focus ((obtain ⟨cB,cF,da⟩:=B1.out.later hbg);(obtain ⟨ol,pz,ok⟩:=B2.out.later hbg);(have ko:=(hbg.cell (p:=⟨ob,oo+j,none⟩) ed).trans hI.out;obtain ⟨k0,k1,k2,k3,k4,k5, -, -, -, -, -, -⟩:=HC.out.below (gp.out.trans (hbg.mono gp.out.size)) ij);clear hbg hdg;first | (go_simp;done) | (go_simp;with_reducible rfl))
  simp only [Act.put,Known.val,aA,aD,aE]
  intro wg hb hf ee
  obtain ⟨ah,gl,fo,hY⟩:=hf 8 (by omega)
  have ih:ah ≠ w.heap.size:=fun e=>by have:=ai;omega
  have nB1B6:w.heap.size ≠ ah:=fun e=>ih e.symm
  have io:ah ≠ w.heap.size+1:=fun e=>by have:=aj;omega
  have nB2B6:w.heap.size+1 ≠ ah:=fun e=>io e.symm
  simp only [gl]
  clear gl
  clear ee
  clear ai am ao aj an al
  replace B1:=h! (B1.out.later hb)
  replace B2:=h! (B2.out.later hb)
  have B6:=h! hY
  clear hY
  obtain ⟨ai,am,ao⟩:=B1.out
  obtain ⟨aj,an,al⟩:=B2.out
  obtain ⟨dj,dl,dk⟩:=B6.out
  clear hf
  have ay:=h! ((gi.out.more (b:=ah) fo).later hb)
  have ad:=h! ((ek.out.more (b:=ah) fo).later hb)
  replace HW:=h! (HW.out.trans (hb.mono HW.out.size))
  have hb6w:w.heap.size+1 < ah:=by omega
  clear hb fo gi ek gp
  go_upto_region 11 with (fail)
  clear ai am ao aj an al dj dl dk
  have bx:=((((((Only.set wg (ah) 0 (.slice dh x.phis.length de)).put 1 (.slice dg x.code.length di)).put 2 (.int .i64 x.term.op)).put 3 (.int .i64 x.term.val)).put 4 (.slice dd x.term.to.length df)).put 5 (.int .i64 x.term.n))
  replace B1:=h! (B1.out.only bx (by first | assumption | (simp;done) | omega))
  replace B2:=h! (B2.out.only bx (by first | assumption | (simp;done) | omega))
  replace ay:=h! ((((((ay.out.other (p:=⟨ah,0,none⟩) (.slice dh x.phis.length de) (by simp)).other (p:=⟨ah,1,none⟩) (.slice dg x.code.length di) (by simp)).other (p:=⟨ah,2,none⟩) (.int .i64 x.term.op) (by simp)).other (p:=⟨ah,3,none⟩) (.int .i64 x.term.val) (by simp)).other (p:=⟨ah,4,none⟩) (.slice dd x.term.to.length df) (by simp)).other (p:=⟨ah,5,none⟩) (.int .i64 x.term.n) (by simp))
  replace ad:=h! ((((((ad.out.other (p:=⟨ah,0,none⟩) (.slice dh x.phis.length de) (by simp)).other (p:=⟨ah,1,none⟩) (.slice dg x.code.length di) (by simp)).other (p:=⟨ah,2,none⟩) (.int .i64 x.term.op) (by simp)).other (p:=⟨ah,3,none⟩) (.int .i64 x.term.val) (by simp)).other (p:=⟨ah,4,none⟩) (.slice dd x.term.to.length df) (by simp)).other (p:=⟨ah,5,none⟩) (.int .i64 x.term.n) (by simp))
  replace HW:=h! (bx.2.2 HW.out (by first | assumption | omega | (have:=HW.out.size;omega) | (simp;done) | (simp;omega)))
  replace B6:=h! (Box.to (A':=#[(.slice dh x.phis.length de),(.slice dg x.code.length di),(.int .i64 x.term.op),(.int .i64 x.term.val),(.slice dd x.term.to.length df),(.int .i64 x.term.n)]) ((((((B6.out.set 0 (.slice dh x.phis.length de)).set 1 (.slice dg x.code.length di)).set 2 (.int .i64 x.term.op)).set 3 (.int .i64 x.term.val)).set 4 (.slice dd x.term.to.length df)).set 5 (.int .i64 x.term.n)) (by first | rfl | simp))
  clear bx
  generalize ((((((wg.setCell ⟨ah,0,none⟩ (.slice dh x.phis.length de)).setCell ⟨ah,1,none⟩ (.slice dg x.code.length di)).setCell ⟨ah,2,none⟩ (.int .i64 x.term.op)).setCell ⟨ah,3,none⟩ (.int .i64 x.term.val)).setCell ⟨ah,4,none⟩ (.slice dd x.term.to.length df)).setCell ⟨ah,5,none⟩ (.int .i64 x.term.n))=w6 at *
  obtain ⟨ai,am,ao⟩:=B1.out
  obtain ⟨aj,an,al⟩:=B2.out
  obtain ⟨dj,dl,dk⟩:=B6.out
  rw [<-lp.out, <-ka.out] at B6
  go_wp2_with fail
  clear ai am ao aj an al dj dl dk
  --@R1
  go_loopw [7,8,11] (fun u c iv wr => ∃ k:Nat,k <= pl/\iv = .int .i64 k/\c = .int .i64 ((np+(L ++ fH (x.phis.take k)).length:Nat):Int)/\Own wr w2.heap.size [ah,w.heap.size,w.heap.size+1] 80 2 u (L ++ fH (x.phis.take k)).length (iH (fP np (L ++ fH (x.phis.take k))))/\Holds [ah] 0 wr (fun k=>k < w2.heap.size) (OldK w2)/\Below w.heap.size w wr/\Box wr w.heap.size #[.slice ap np cp,.int .i64 ar,.int .i64 ce,.slice (some ⟨bb,bo,none⟩) nb cb]/\Box wr (w.heap.size+1) #[.slice none 0 0,.int .i64 0,.int .i64 0,.slice none 0 0]/\Box wr ah #[.slice dh pl de,.slice dg cl di,.int .i64 x.term.op,.int .i64 x.term.val,.slice dd x.term.to.length df,.int .i64 x.term.n]) (fun _ _ iv _=>pl - (intOf iv).toNat)
  case atStart =>
   have e0:L ++ fH (x.phis.take 0)=L:=bY _
   exact ⟨0,aJ _,rfl,by rw [e0];simp,by rw [e0];exact ay.out,ad.out,HW.out,B1.out,B2.out,B6.out⟩
  obtain ⟨k,hk,rfl,rfl,cg,az,hW,h1,h2,h6⟩:=hrel
  obtain ⟨M,hM⟩ : ∃ M,M=L ++ fH (x.phis.take k):=⟨_,rfl⟩
  rw [<-hM] at cg ⊢
  obtain ⟨ph,pc2,rfl⟩:=cg.form
  replace ay:=h! cg
  replace ad:=h! az
  replace HW:=h! hW
  replace B1:=h! h1
  replace B2:=h! h2
  replace B6:=h! h6
  have pe:np+M.length <= 4112:=by rw [hM];exact (ip.out k).1
  have HM:=h! hM
  clear cg az hW h1 h2 h6 hM
  generalize wr=w7 at *
  have hz27:w2.heap.size <= w7.heap.size:=(mZ gy.out HW.out ad.out).size
  obtain ⟨ai,am,ao⟩:=B1.out
  obtain ⟨aj,an,al⟩:=B2.out
  obtain ⟨dj,dl,dk⟩:=B6.out
  by_cases hlt2:k < pl
  ·obtain ⟨rfl,kG⟩:=lM.out (by omega)
   obtain ⟨p,kb⟩ : ∃ p,x.phis[k]? = some p:=⟨_,aC (by rw [<-lp.out];exact hlt2)⟩
   obtain ⟨af,av,cf,cv,hP⟩:=lL.out k p kb
   obtain ⟨m0,m1,m2,m3,r1,r2,r3,r4⟩:=hP.below HW.out kG
   have bm:Hid (L ++ fH (x.phis.take (k+1))=M ++ [p.id]):=h! (by rw [HM.out];unfold fH;rw [eT _ _ _ kb];simp)
   obtain ⟨cn,dt⟩ : ∃ cn,cn=np+M.length:=⟨_,rfl⟩
   obtain ⟨nM,dn⟩ : ∃ nM,nM=M.length:=⟨_,rfl⟩
   have hV:Hid (cn=np+nM):=h! (by rw [dt,dn])
   have ik:=h! dn
   rw [<-dt] at pe ⊢
   rw [<-dn] at ay ⊢
   have ic:Hid (iH (fP np (M ++ [p.id]))=iH (fP np M) ++ [.int .i64 p.id,.int .i64 (cn:Int)]):=h! (by rw [kV,jV,dt])
   have lF:nM <= 4112:=by have:=hV.out;omega
   clear r1 r2 r3 r4 hP kb dt dn
   go_wp2_with (at_builtin;refine gF rfl _ _ 76 80 rfl aDM rfl rfl (ay.out.alloc _) (Row.of_box (n:=1) (size:=2) (Box.new _ _ _) rfl (by omega)) (by simp [Value.oneCell']) (by unfold maxLen;omega) (by omega) (by simp;have:=HW.out.size;omega) (by intro b hb;simp at hb ⊢;omega) ?_;intro v2 w8 hK bk fa)
   clear ai am ao aj an al dj dl dk
   replace B1:=h! (bk _ _ (by simp) (B1.out.alloc _))
   replace B2:=h! (bk _ _ (by simp) (B2.out.alloc _))
   replace B6:=h! (bk _ _ (by simp) (B6.out.alloc _))
   replace ay:=h! hK
   replace ad:=h! ((ad.out.alloc _).off (Off.of_base fa) (fun k h1 h2=>by omega))
   replace HW:=h! ((HW.out.alloc (by have:=HW.out.size;omega) _).trans (fa.mono gy.out.size))
   clear hK bk fa
   obtain ⟨ai,am,ao⟩:=B1.out
   obtain ⟨aj,an,al⟩:=B2.out
   obtain ⟨dj,dl,dk⟩:=B6.out
   go_roundw
   case rel=>exact ⟨k+1,hlt2,by go_num,by rw [bm.out,aI, <-ik.out,dL, <-Nat.add_assoc, <-hV.out];go_num,by rw [bm.out,ic.out,aI, <-ik.out];exact ay.out,ad.out,HW.out,B1.out,B2.out,B6.out⟩
   simp [intOf];omega
  obtain rfl:pl=k:=by omega
  have gb:Hid (M=L ++ fH x.phis):=h! (by rw [HM.out,aH (by rw [<-lp.out];exact aB _)])
  go_wp2_with fail
  clear ai am ao aj an al dj dl dk
  --@R2
  go_loopw [7,8,12] (fun u c iv wr => ∃ k:Nat,k <= cl/\iv = .int .i64 k/\c = .int .i64 ((np+(L ++ fH x.phis ++ fD (x.code.take k)).length:Nat):Int)/\Own wr w2.heap.size [ah,w.heap.size,w.heap.size+1] 80 2 u (L ++ fH x.phis ++ fD (x.code.take k)).length (iH (fP np (L ++ fH x.phis ++ fD (x.code.take k))))/\Holds [ah] 0 wr (fun k=>k < w2.heap.size) (OldK w2)/\Below w.heap.size w wr/\Box wr w.heap.size #[.slice ap np cp,.int .i64 ar,.int .i64 ce,.slice (some ⟨bb,bo,none⟩) nb cb]/\Box wr (w.heap.size+1) #[.slice none 0 0,.int .i64 0,.int .i64 0,.slice none 0 0]/\Box wr ah #[.slice dh pl de,.slice dg cl di,.int .i64 x.term.op,.int .i64 x.term.val,.slice dd x.term.to.length df,.int .i64 x.term.n]) (fun _ _ iv _=>cl - (intOf iv).toNat)
  case atStart =>
   have e0:L ++ fH x.phis ++ fD (x.code.take 0)=M:=by rw [gb.out];exact bY _
   exact ⟨0,aJ _,rfl,by rw [e0],by rw [e0];exact ay.out,ad.out,HW.out,B1.out,B2.out,B6.out⟩
  obtain ⟨k,hk,rfl,rfl,cg,az,hW,h1,h2,h6⟩:=hrel
  obtain ⟨N,hN⟩ : ∃ N,N=L ++ fH x.phis ++ fD (x.code.take k):=⟨_,rfl⟩
  rw [<-hN] at cg ⊢
  obtain ⟨pa3,pc3,rfl⟩:=cg.form
  replace ay:=h! cg
  replace ad:=h! az
  replace HW:=h! hW
  replace B1:=h! h1
  replace B2:=h! h2
  replace B6:=h! h6
  have po:np+N.length <= 4112:=by rw [hN];exact (ip.out 0).2 k
  have HN:=h! hN
  clear cg az hW h1 h2 h6 hN
  generalize wr=w9 at *
  have hz29:w2.heap.size <= w9.heap.size:=(mZ gy.out HW.out ad.out).size
  obtain ⟨ai,am,ao⟩:=B1.out
  obtain ⟨aj,an,al⟩:=B2.out
  obtain ⟨dj,dl,dk⟩:=B6.out
  by_cases hlt2:k < cl
  ·obtain ⟨rfl,kG⟩:=lq.out (by omega)
   obtain ⟨y,gr⟩ : ∃ y,x.code[k]? = some y:=⟨_,aC (by rw [<-ka.out];exact hlt2)⟩
   obtain ⟨aa,ca,hP⟩:=la.out k y gr
   obtain ⟨m0,m1,m2,m3,r1,r2,r3,r4⟩:=hP.below HW.out kG
   by_cases h0:0 <= y.id
   ·have bm:Hid (L ++ fH x.phis ++ fD (x.code.take (k+1))=N ++ [y.id]):=h! (by rw [HN.out];unfold fD;rw [eT _ _ _ gr];simp [dH,h0])
    have jk:decide (0 <= y.id)=true:=by simpa using h0
    obtain ⟨cn,dt⟩ : ∃ cn,cn=np+N.length:=⟨_,rfl⟩
    obtain ⟨nM,dn⟩ : ∃ nM,nM=N.length:=⟨_,rfl⟩
    have hV:Hid (cn=np+nM):=h! (by rw [dt,dn])
    have ik:=h! dn
    rw [<-dt] at po ⊢
    rw [<-dn] at ay ⊢
    have ic:Hid (iH (fP np (N ++ [y.id]))=iH (fP np N) ++ [.int .i64 y.id,.int .i64 (cn:Int)]):=h! (by rw [kV,jV,dt])
    have lF:nM <= 4112:=by have:=hV.out;omega
    clear r1 r2 r3 r4 hP gr dt dn h0
    go_wp2_with (at_builtin;refine gF rfl _ _ 76 80 rfl aDM rfl rfl (ay.out.alloc _) (Row.of_box (n:=1) (size:=2) (Box.new _ _ _) rfl (by omega)) (by simp [Value.oneCell']) (by unfold maxLen;omega) (by omega) (by simp;have:=HW.out.size;omega) (by intro b hb;simp at hb ⊢;omega) ?_;intro v2 wx hK bk fa)
    clear ai am ao aj an al dj dl dk
    replace B1:=h! (bk _ _ (by simp) (B1.out.alloc _))
    replace B2:=h! (bk _ _ (by simp) (B2.out.alloc _))
    replace B6:=h! (bk _ _ (by simp) (B6.out.alloc _))
    replace ay:=h! hK
    replace ad:=h! ((ad.out.alloc _).off (Off.of_base fa) (fun k h1 h2=>by omega))
    replace HW:=h! ((HW.out.alloc (by have:=HW.out.size;omega) _).trans (fa.mono gy.out.size))
    clear hK bk fa
    obtain ⟨ai,am,ao⟩:=B1.out
    obtain ⟨aj,an,al⟩:=B2.out
    obtain ⟨dj,dl,dk⟩:=B6.out
    go_roundw
    case rel=>exact ⟨k+1,hlt2,by go_num,by rw [bm.out,aI, <-ik.out,dL, <-Nat.add_assoc, <-hV.out];go_num,by rw [bm.out,ic.out,aI, <-ik.out];exact ay.out,ad.out,HW.out,B1.out,B2.out,B6.out⟩
    simp [intOf];omega
   have jk:decide (0 <= y.id)=false:=by simpa using h0
   have bm:Hid (L ++ fH x.phis ++ fD (x.code.take (k+1))=N):=h! (by rw [HN.out,tA gr h0])
   clear r1 r2 r3 r4 hP gr h0
   go_wp2
   go_roundw
   case rel=>exact ⟨k+1,hlt2,by go_num,by rw [bm.out],by rw [bm.out];exact ay.out,ad.out,HW.out,B1.out,B2.out,B6.out⟩
   simp [intOf];omega
  obtain rfl:cl=k:=by omega
  have nt:Hid (idsO f (O.take (j+1))=N):=h! (by rw [dm.out,HN.out,aH (by rw [<-ka.out];exact aB _),bQ])
  go_wp2
  go_roundw
  case rel=>exact ⟨j+1,kg,by go_num,by rw [nt.out],by rw [nt.out];exact ay.out.less (by simp),ad.out.less (by simp),HW.out,B1.out,B2.out⟩
  simp [intOf];omega
 obtain rfl:no=j:=by omega
 --@S0
 have oy:Hid (L=idsO f O):=h! (by rw [HL.out,aH (by rw [<-fw.out];exact aB _)])
 obtain ⟨nL,lb⟩ : ∃ nL,nL=L.length:=⟨_,rfl⟩
 rw [<-lb] at ay pw ⊢
 have jd:Hid ((fP np L).length=nL):=h! (by rw [nX,lb])
 have oz:Hid (Row wb (.slice pa nL pc) nL 2 (iH (fP np L))):=h! (ay.out.reads (by omega))
 have pd:Hid (Below w2.heap.size w2 wb):=h! (mZ gy.out HW.out ad.out)
 have kh:Hid (Ints wb (.slice (some ⟨ob,oo,none⟩) no oc) (natI O)):=h! (pr.out.below pd.out)
 obtain ⟨rn,jq⟩ : ∃ rn,rn=renW np (idsO f O):=⟨_,rfl⟩
 have ox:=h! jq
 have mi:Hid (toP (fP np L)=rn):=h! (by rw [jq,oy.out];rfl)
 have fp:Hid (∀ v,In64 v -> In64 (rn v)):=h! (fun v hv=>by
  rw [jq]
  unfold renW
  cases ht:tyOf (fP np (idsO f O)) v with
  | none=>exact hv
  | some t=>exact qE (np:=np) (ids:=idsO f O) (by have:=ki.out;omega) _ (by unfold fN;rw [aM];exact .inr (mE ht)))
 have ft:=h! (mN HZ.out.1)
 have mz:Hid (Below w.heap.size w wb):=HW
 have px:=B1
 have mv:=B2
 have ed:ob < wb.heap.size:=ad.out.lt ob ji
 have kn:Hid (∀ (i b:Nat),O[i]? = some b -> wb.cell? ⟨ob,oo+i,none⟩=some (.int .i64 (b:Int))):=h! (fun i b hi=>(ad.out.now.cell ji).trans (mo.out i b hi))
 clear ay lb jq ad
 have ad:Hid (Holds [] 0 wb (fun k=>k < wb.heap.size) (OldK wb)):=h! (pB wb)
 obtain ⟨ai,am,ao⟩:=B1.out
 obtain ⟨aj,an,al⟩:=B2.out
 go_wp2_with fail
 refine (aEK (HV.out.below HW.out) ft.out.1 ft.out.2).mono ?_
 rintro e w3 ⟨vo,SO0,rfl,pn,nz,hb⟩
 obtain ⟨⟨ph,bv,SQ,SB0,rfl,hQ,nj,jh,my,oe⟩,kv,iq,hE⟩:=pn
 obtain ⟨pq,qc,rfl⟩:=hQ.ints.form
 obtain ⟨ab2,cb2,rfl⟩:=(nj.reads (R0:=gR) fun _ _ _ h=>h.reads).form
 have lS:=h! (And.intro iq hE)
 have HQ:Hid (Holds [] wb.heap.size w3 SQ (fun W=>eU W SQ (.slice pq np qc) f.params)):=h! (by
  have h9:=gH hQ (fun k hk=>nz k (my k hk))
  rw [<-jp.out] at h9;exact h9)
 rw [<-jb.out.1, <-jb.out.2, <-jp.out, <-ld.out]
 clear hQ nj jh my oe kv nz iq hE
 have ke:wb.heap.size <= w3.heap.size:=hb.size
 clear ai am ao aj an al
 replace B1:=h! (B1.out.later hb)
 replace B2:=h! (B2.out.later hb)
 replace ad:=h! (ad.out.later hb)
 replace HW:=h! (HW.out.trans (hb.mono HW.out.size))
 clear hb
 obtain ⟨ai,am,ao⟩:=B1.out
 obtain ⟨aj,an,al⟩:=B2.out
 go_upto_region 24 with (fail)
 replace HQ:=h! (HQ.out.more (aB _))
 replace ad:=h! (ad.out.more (aB _))
 have hT:w3.heap.size ≠ w.heap.size:=fun e=>by have:=ai;omega
 have nB1BC:w.heap.size ≠ w3.heap.size:=fun e=>hT e.symm
 have hS:w3.heap.size ≠ w.heap.size+1:=fun e=>by have:=aj;omega
 have nB2BC:w.heap.size+1 ≠ w3.heap.size:=fun e=>hS e.symm
 clear ai am ao aj an al
 have cm:=(Below.refl w3.heap.size w3).alloc (aB _) (.cells #[.slice pq np qc,.int .i64 ar,.int .i64 ce,.slice none 0 0] 25)
 replace B1:=h! (B1.out.later cm)
 replace B2:=h! (B2.out.later cm)
 replace ad:=h! (ad.out.later cm)
 replace HQ:=h! (HQ.out.later cm)
 replace HW:=h! (HW.out.trans (cm.mono HW.out.size))
 clear cm
 have BC:=h! (Box.new w3 #[.slice pq np qc,.int .i64 ar,.int .i64 ce,.slice none 0 0] 25)
 generalize w3.alloc (.cells #[.slice pq np qc,.int .i64 ar,.int .i64 ce,.slice none 0 0] 25)=w4 at *
 obtain ⟨ai,am,ao⟩:=B1.out
 obtain ⟨aj,an,al⟩:=B2.out
 obtain ⟨iz,jj,jg⟩:=BC.out
 obtain ⟨bc,gz⟩ : ∃ bc,bc=w3.heap.size:=⟨_,rfl⟩
 rw [<-gz] at BC HQ ad ke
 simp only [<-gz]
 clear gz
 go_wp2_with fail
 clear ai am ao aj an al iz jj jg
 --@S1
 go_loopw [14] (fun iv wr => ∃ (j:Nat) (vj:Value) (SB:Foot),j <= no/\iv = .int .i64 j/\Holds [bc] 0 wr (fun k=>k < wb.heap.size) (OldK wb)/\Below w.heap.size w wr/\Box wr bc #[.slice pq np qc,.int .i64 ar,.int .i64 ce,vj]/\Holds [bc] wb.heap.size wr SQ (fun W=>eU W SQ (.slice pq np qc) f.params) /\
   Holds [bc] wb.heap.size wr SB (fun W=>fA W SB vj ((O.take j).map fun b=>refB rn O (jO f b)))/\SQ.off SB /\ ∃ a c,vj = .slice a j c) (fun iv _=>no - (intOf iv).toNat)
 case atStart=>exact ⟨0,.slice none 0 0,Foot.none,aJ _,rfl,ad.out,HW.out,BC.out,HQ.out,⟨OSl.nil none,fun _ _ h hk=>h.keep OBlock.nice hk,fun k h=>h.elim,fun k h=>h.elim,fun k h=>h.elim⟩,fun k _ h=>h.elim,_,_,rfl⟩
 obtain ⟨j,vj,SB,hj,rfl,az,hW,md,hQ,mp,jh,av,cv,rfl⟩:=hrel
 replace ad:=h! az
 replace HW:=h! hW
 replace BC:=h! md
 replace HQ:=h! hQ
 have fL:=h! mp
 have jv:=h! jh
 clear az hW md hQ mp jh
 generalize wr=w5 at *
 have nr:=HW
 have ey:Hid (Below wb.heap.size wb w5):=h! (mZ mz.out HW.out ad.out)
 by_cases hlt2:j < no
 ·obtain ⟨b,dz⟩ : ∃ b,O[j]? = some b:=⟨_,aC (by rw [<-fw.out];exact hlt2)⟩
  have db:b < f.blocks.length:=HO.out.facts.2.2.1 b (aG dz)
  have kt:b < nb:=by rw [ld.out];exact db
  obtain ⟨rfl,ij⟩:=nk.out (by omega)
  obtain ⟨x,hx⟩ : ∃ x,f.blocks[b]? = some x:=⟨_,aC db⟩
  obtain ⟨dh,dg,dd,de,di,df,hC⟩:=nc.out b x hx
  have HC:=h! hC
  have om:=h! hC.blockV
  have kq:Hid (jO f b=x):=h! (jS hx)
  have fy:=h! (ft.out.1 x (aG hx))
  have oi:=h! dz
  have HX:=h! hx
  have hI:=h! ((ey.out.cell (p:=⟨ob,oo+j,none⟩) ed).trans (kn.out j b dz))
  have hd:ob < w5.heap.size:=by have:=ey.out.size;omega
  obtain ⟨x1,lg⟩ : ∃ x1,x1=mapB rn x:=⟨_,rfl⟩
  have fM:=h! lg
  have km:Hid (∀ q,SQ q -> q < w5.heap.size):=h! HQ.out.lt
  have gB:Hid (∀ q,SB q -> q ∉ [bc]):=h! fL.out.free
  have ga:Hid (Box w5 w.heap.size #[.slice ap np cp,.int .i64 ar,.int .i64 ce,.slice (some ⟨bb,bo,none⟩) nb cb]):=h! (px.out.later ey.out)
  have hH:Hid (Row w5 (.slice pa nL pc) nL 2 (iH (fP np L))):=h! (oz.out.below ey.out)
  have pg:Hid (∀ wg,Below w5.heap.size w5 wg -> Calls Tryz.prog 41 #[.agg #[.slice dh x.phis.length de,.slice dg x.code.length di,.int .i64 x.term.op,.int .i64 x.term.val,.slice dd x.term.to.length df,.int .i64 x.term.n],.slice pa nL pc] wg (pT x1 wg)):=h! (fun wg hbg=>by
   rw [lg]
   exact aAU (om.out.below (HW.out.trans (hbg.mono HW.out.size))) fy.out.1 fy.out.2 fp.out (by rw [<-mi.out];exact ToOk.of_row (by rw [jd.out];exact hH.out.below hbg) (by rw [jd.out];omega)))
  clear hC hx dz lg
  obtain ⟨fk,gh,ie⟩:=ga.out
  --@S2
  go_upto_region 27 with (fail)
  refine Seven.wp_region_grow 11 (fun _=>none) (fun ν kz=>match kz with | 9=>.holds (fun u φ w' => ∃ (pv uv tv:Value),u = .agg #[pv,uv,.int .i64 x1.term.op,.int .i64 x1.term.val,tv,.int .i64 x1.term.n]/\OBlock w' φ [pv,uv,.int .i64 x1.term.op,.int .i64 x1.term.val,tv,.int .i64 x1.term.n] x1) | 10=>.holds (Seven.MadeS (fun b=>.pointer (some ⟨b,0,none⟩)) #[.slice none 0 0,.slice none 0 0,.int .i64 0,.int .i64 0,.slice none 0 0,.int .i64 0]) | _=>.plain) (by kernel_rfl) (by kernel_rfl) ?_ ?_ ?_ (fun ν => ?_)
  ·(intro ν k;(try dsimp only);split <;> first | exact True.intro | (intro u φ w1 w2 D hu ho gq hDb kg hn;first | exact Seven.MadeS.off hu ho gq | (obtain ⟨pv,uv,tv,h1,h2⟩:=hu;exact ⟨pv,uv,tv,h1,OBlock.nice.off h2 ho gq⟩)))
  ·(intro ν ν' k h;first | rfl | ((try dsimp only);split <;> first | rfl))
  ·(intro j k h;cases h)
  simp only [aO,aS,aP,aU]
  iterate 9 (refine Seven.Grow.val (v := ?_) rfl rfl (fun wg hbg hdg => ?_) ?_;rotate_left;(focus ((obtain ⟨cB,cF,da⟩:=ga.out.later hbg);(have ko:=(hbg.cell (p:=⟨ob,oo+j,none⟩) hd).trans hI.out;obtain ⟨k0,k1,k2,k3,k4,k5, -, -, -, -, -, -⟩:=HC.out.below (HW.out.trans (hbg.mono HW.out.size)) ij);clear hbg hdg;first | (go_simp;done) | (go_simp;with_reducible rfl)));simp only [Act.put,aA,aD,aE])
  refine Seven.Grow.call (f := ?_) (args := ?_) rfl (by intro h;cases h) (fun wg => ?_) (fun wg hbg hdg => ?_) ?_
  rotate_left 2
  focus (first | (go_simp;done) | (go_simp;refine And.intro ?_ ?_ <;> with_reducible rfl) | (go_simp;with_reducible rfl))
  focus (exact (pg.out wg hbg).mono (fun e w2 ⟨pv,uv,tv,S,he,hO,hF,hw⟩=>⟨_,S,he,⟨pv,uv,tv,rfl,hO⟩,hw,fun k hk=>⟨hF k hk,hO.lt k hk⟩⟩))
  simp only [Act.put,Seven.Known.val,aA,aD,aE]
  refine Seven.Grow.made (T := ?_) rfl rfl (fun wg hbg hdg => ?_) ?_
  rotate_left
  focus ((obtain ⟨cB,cF,da⟩:=ga.out.later hbg);(have ko:=(hbg.cell (p:=⟨ob,oo+j,none⟩) hd).trans hI.out;obtain ⟨k0,k1,k2,k3,k4,k5, -, -, -, -, -, -⟩:=HC.out.below (HW.out.trans (hbg.mono HW.out.size)) ij);clear hbg hdg;first | (go_simp;done) | (go_simp;with_reducible rfl))
  simp only [Act.put,Seven.Known.val,aA,aD,aE]
  intro wg hb hf
  obtain ⟨ae,ei,bO,ep⟩:=hf.fact 10 ⟨by omega,rfl⟩
  have em:w5.heap.size <= ae:=hf.base 10 ae ⟨by omega,rfl⟩ ((bO ae).2 rfl)
  have dv:ae ≠ w.heap.size:=fun e=>by have:=fk;omega
  have nB1RB15:w.heap.size ≠ ae:=fun e=>dv e.symm
  simp only [ei]
  clear ei
  have gB15:=bE HW.out.size em
  clear em
  clear fk gh ie
  have nG:=hb
  replace ga:=h! (ga.out.later hb)
  replace HW:=h! (HW.out.trans (hb.mono HW.out.size))
  clear hb
  have hs:=h! ep
  clear ep
  obtain ⟨fk,gh,ie⟩:=ga.out
  obtain ⟨dy,fl,fi⟩:=hs.out
  simp only [bH,Nat.reduceAdd]
  have h9:∃ (pv uv tv:Value),(ν 9).1 = .agg #[pv,uv,.int .i64 x1.term.op,.int .i64 x1.term.val,tv,.int .i64 x1.term.n]/\OBlock wg (ν 9).2 [pv,uv,.int .i64 x1.term.op,.int .i64 x1.term.val,tv,.int .i64 x1.term.n] x1:=hf.fact 9 ⟨by omega,rfl⟩
  obtain ⟨pv,uv,tv,e9,o9⟩:=h9
  have mf:∀ k,(ν 9).2 k -> w5.heap.size <= k:=fun k hk=>hf.base 9 k ⟨by omega,rfl⟩ hk
  have n9:¬ (ν 9).2 ae:=fun h=>hf.apart 9 10 ⟨by omega,rfl⟩ ⟨by omega,rfl⟩ (by omega) ae h ((bO _).2 rfl)
  have hb15:w5.heap.size <= ae:=hf.base 10 ae ⟨by omega,rfl⟩ ((bO _).2 rfl)
  simp only [e9]
  generalize (ν 9).2=Sx at *
  obtain ⟨apx,bl,bj,cpx,ba,bf,S1,S2,S3,nl,h1,h2,h3,nw,ms,mg,i1,i2,i3,ct⟩:=o9.parts2
  obtain ⟨rfl,rfl,rfl⟩ : pv = .slice apx x1.phis.length cpx/\uv = .slice bl x1.code.length ba/\tv = .slice bj x1.term.to.length bf:=by simpa using nl
  obtain ⟨npx,dc⟩ : ∃ n,n=x1.phis.length:=⟨_,rfl⟩
  obtain ⟨aw,cy⟩ : ∃ n,n=x1.code.length:=⟨_,rfl⟩
  obtain ⟨ax,cL⟩ : ∃ n,n=x1.term.to.length:=⟨_,rfl⟩
  rw [<-dc] at h1 ct
  rw [<-cy] at h2 ct
  rw [<-cL] at h3 ct
  rw [<-dc, <-cy, <-cL]
  have bd:=h! dc
  have cx:=h! cy
  have cq:=h! cL
  have hnpb:npx <= 100000:=by rw [dc,fM.out];unfold mapB;simp only [aW];exact fy.out.1
  have hncb:aw <= 100000:=by rw [cy,fM.out];unfold mapB;simp only [aW];exact fy.out.2
  have hntb:ax <= 17592186044416:=by have h9:=h3.1.big;rw [<-cL] at h9;exact h9
  have lv:=h! ct
  have gc:=h! (And.intro nw (And.intro ms mg))
  have fG:=h! (And.intro i1 (And.intro i2 i3))
  have jc:=h! mf
  have lh:=h! n9
  have na:=h! h1
  have ma:=h! h2
  have me:=h! h3
  have fx:=h! nG
  have eo:Hid (OffF (fun k=>k=ae) wg wg):=h! (Off.refl _ _)
  clear hf e9 o9 nl h1 h2 h3 nw ms mg i1 i2 i3 ct dc cy cL mf n9 nG bO
  go_upto_region 28 with (fail)
  clear dy fl fi
  have bx:=((((((Only.set wg (ae) 0 (.slice apx npx cpx)).put 1 (.slice bl aw ba)).put 2 (.int .i64 x1.term.op)).put 3 (.int .i64 x1.term.val)).put 4 (.slice bj ax bf)).put 5 (.int .i64 x1.term.n))
  replace eo:=h! ((((((eo.out.other (p:=⟨ae,0,none⟩) (.slice apx npx cpx) (by simp)).other (p:=⟨ae,1,none⟩) (.slice bl aw ba) (by simp)).other (p:=⟨ae,2,none⟩) (.int .i64 x1.term.op) (by simp)).other (p:=⟨ae,3,none⟩) (.int .i64 x1.term.val) (by simp)).other (p:=⟨ae,4,none⟩) (.slice bj ax bf) (by simp)).other (p:=⟨ae,5,none⟩) (.int .i64 x1.term.n) (by simp))
  replace HW:=h! (bx.2.2 HW.out (by first | assumption | omega | (have:=HW.out.size;omega) | (simp;done) | (simp;omega)))
  replace hs:=h! (Box.to (A':=#[(.slice apx npx cpx),(.slice bl aw ba),(.int .i64 x1.term.op),(.int .i64 x1.term.val),(.slice bj ax bf),(.int .i64 x1.term.n)]) ((((((hs.out.set 0 (.slice apx npx cpx)).set 1 (.slice bl aw ba)).set 2 (.int .i64 x1.term.op)).set 3 (.int .i64 x1.term.val)).set 4 (.slice bj ax bf)).set 5 (.int .i64 x1.term.n)) (by first | rfl | simp))
  clear bx
  generalize ((((((wg.setCell ⟨ae,0,none⟩ (.slice apx npx cpx)).setCell ⟨ae,1,none⟩ (.slice bl aw ba)).setCell ⟨ae,2,none⟩ (.int .i64 x1.term.op)).setCell ⟨ae,3,none⟩ (.int .i64 x1.term.val)).setCell ⟨ae,4,none⟩ (.slice bj ax bf)).setCell ⟨ae,5,none⟩ (.int .i64 x1.term.n))=co at *
  obtain ⟨dy,fl,fi⟩:=hs.out
  have hzg15:wg.heap.size <= co.heap.size:=Off.size eo.out
  have fs:Hid (Below w5.heap.size w5 co):=h! (fx.out.trans (Off.below eo.out fx.out.size (fun k _ hk=>by have e:k=ae:=hk;omega)))
  have ak:Hid (¬ S1 ae /\ ¬ S2 ae /\ ¬ S3 ae/\(∀ q,S1 q -> w5.heap.size <= q)/\(∀ q,S2 q -> w5.heap.size <= q) /\ ∀ q,S3 q -> w5.heap.size <= q):=h! ⟨fun h=>lh.out (fG.out.1 _ h),fun h=>lh.out (fG.out.2.1 _ h),fun h=>lh.out (fG.out.2.2 _ h),fun q h=>jc.out q (fG.out.1 q h),fun q h=>jc.out q (fG.out.2.1 q h),fun q h=>jc.out q (fG.out.2.2 q h)⟩
  have H1:Hid (fS co S1 (.slice apx npx cpx) x1.phis):=h! (na.out.off OPhi.nice eo.out (fun q h1 h2=>by have e:q=ae:=h2;exact ak.out.1 (e ▸ h1)))
  have H2:Hid (gL co S2 (.slice bl aw ba) x1.code):=h! (ma.out.off OInstr.nice eo.out (fun q h1 h2=>by have e:q=ae:=h2;exact ak.out.2.1 (e ▸ h1)))
  have H3:Hid (eU co S3 (.slice bj ax bf) x1.term.to):=h! (me.out.off eo.out (fun q h1 h2=>by have e:q=ae:=h2;exact ak.out.2.2.1 (e ▸ h1)))
  have hl15:ae < co.heap.size:=dy
  have il:w5.heap.size <= co.heap.size:=fs.out.size
  have hG:Hid (ToOk (.slice pa nL pc) rn w5):=h! (by rw [<-mi.out];exact ToOk.of_row (by rw [jd.out];exact hH.out) (by rw [jd.out];omega))
  have gv:Hid (Ints w5 (.slice (some ⟨ob,oo,none⟩) no oc) (natI O)):=h! (kh.out.below ey.out)
  have pk:Hid (∀ p ∈ x1.phis,p.src.length=p.vals.length):=h! (fun p hp=>by
   rw [fM.out] at hp
   unfold mapB at hp
   obtain ⟨p0,pm,rfl⟩:=aX.1 hp
   unfold mapP
   simp only [aW]
   exact (zJ (fC HZ.out.1).1 HX.out pm).2.1)
  clear na ma me eo fx
  go_wp2_with fail
  clear dy fl fi
  --@S3
  go_loopw [16] (fun iv wr => ∃ (k:Nat) (Sp:Foot),k <= npx/\iv = .int .i64 k/\fS wr Sp (.slice apx npx cpx) (gC (refQ rn O) x1.phis k)/\(∀ q,Sp q -> S1 q \/ co.heap.size <= q)/\Off S1 co wr) (fun iv _=>npx - (intOf iv).toNat)
  case atStart=>exact ⟨0,S1,aJ _,rfl,by rw [fR];exact H1.out,fun q h=>.inl h,Off.refl _ _⟩
  obtain ⟨k,Sp,hk,rfl,eh,ml,ho⟩:=hrel
  have bh:=h! eh
  have iw:=h! ml
  have fq:=h! ho
  clear eh ml ho
  have be:Hid (Box wr ae #[.slice apx npx cpx,.slice bl aw ba,.int .i64 x1.term.op,.int .i64 x1.term.val,.slice bj ax bf,.int .i64 x1.term.n]):=h! (hs.out.off fq.out ak.out.1)
  have gn:Hid (Below w5.heap.size w5 wr):=h! (fs.out.trans (Off.below fq.out il (fun q _ hq=>ak.out.2.2.2.1 q hq)))
  have hzr:co.heap.size <= wr.heap.size:=fq.out.size
  by_cases hlt3:k < npx
  ·obtain ⟨p,hp⟩ : ∃ p,x1.phis[k]? = some p:=⟨_,aC (by rw [<-bd.out];exact hlt3)⟩
   --@I
   obtain ⟨g1,hZ,af,nn,cf,ng,Sv,hv,ag, -,ec,bi, -, -, -, -⟩:=fS.vals bh.out (j:=k) (p:=p) (by rw [fW];exact hp)
   rw [eV, <-bd.out] at hv
   injection hv with e1 e2 e3
   subst e1
   subst e3
   have eg:S1 g1:=by
    obtain ⟨cs,G,F,nm⟩:=H1.out
    obtain ⟨g',c',ps,pf, -⟩:=nm.row.addr (by rw [<-bd.out];omega)
    injection ps with q1 q2 q3
    injection q1 with q1
    injection q1 with q1
    rw [q1];exact nm.inG _ pf
   have mt:=pk.out p (aG hp)
   have mk:Hid (PhiV wr (.agg #[.int .i64 p.id,.int .i64 p.typ,.slice af p.src.length cf,.slice nn p.vals.length ng]) p):=h! ⟨_,_,rfl,ec.src,ec.vals⟩
   have dx:=h! (And.intro ec.id64 ec.typ64)
   have iy:=h! ec.c0
   have en:=h! ec.c1
   have gb:=h! ec.c2
   have ja:=h! ec.c3
   have cw:=h! bi
   have HP:=h! hp
   have fz:=h! eg
   have jz:=h! mt
   have aq:Hid (gA wr wr):=h! (Below.refl _ _)
   have hg5:w5.heap.size <= g1:=ak.out.2.2.2.1 g1 eg
   have ll:g1 ≠ ae:=fun e=>ak.out.1 (e ▸ eg)
   have et:Hid (∀ wg,Below wr.heap.size wr wg -> Calls Tryz.prog 42 #[.agg #[.int .i64 p.id,.int .i64 p.typ,.slice af p.src.length cf,.slice nn p.vals.length ng],.slice (some ⟨ob,oo,none⟩) no oc] wg (aFJ O p wg)):=h! (fun wg hbg=>wW (mk.out.below hbg) dx.out.1 dx.out.2 (gv.out.below (gn.out.trans (hbg.mono gn.out.size))) jz.out (by rw [<-fw.out];omega))
   clear hp ec bi e2 mt eg
   obtain ⟨bp,bn,br⟩:=be.out
   go_upto_region 31 with (fail)
   refine wp_region_grow 11 (fun kz=>match kz with | 9=>.holds (fun u w' => ∃ (sv uv:Value) (S:Foot),u = .agg #[.int .i64 p.id,.int .i64 p.typ,sv,uv]/\Holds [] wr.heap.size w' S (fun W=>OPhi W S [.int .i64 p.id,.int .i64 p.typ,sv,uv] (iD O p))) | _=>.plain) (by kernel_rfl) (by kernel_rfl) ?_ (fun ν => ?_)
   ·(intro k;(try dsimp only);split <;> first | exact True.intro | (intro u w1 w2 hu hb;obtain ⟨sv,uv,S,h1,h2⟩:=hu;exact ⟨sv,uv,S,h1,h2.later hb⟩))
   simp only [aO,aS,aP,aU]
   iterate 9 (refine Grow.val (v := ?_) rfl rfl (fun wg hbg hdg => ?_) ?_;rotate_left;(focus ((obtain ⟨cB,cF,da⟩:=be.out.later hbg);(have z0:=(hbg.cell (p:=⟨g1,k * 4,none⟩) ag).trans iy.out;have z1:=(hbg.cell (p:=⟨g1,k * 4+1,none⟩) ag).trans en.out;have z2:=(hbg.cell (p:=⟨g1,k * 4+2,none⟩) ag).trans gb.out;have z3:=(hbg.cell (p:=⟨g1,k * 4+3,none⟩) ag).trans ja.out);clear hbg hdg;first | (go_simp;done) | (go_simp;with_reducible rfl)));simp only [Act.put,aA,aD,aE])
   refine Grow.call (f := ?_) (args := ?_) rfl (fun wg => ?_) (fun wg hbg hdg => ?_) ?_
   rotate_left 2
   focus (first | (go_simp;done) | (go_simp;refine And.intro ?_ ?_ <;> with_reducible rfl) | (go_simp;with_reducible rfl))
   focus (exact (et.out wg hbg).mono (fun e w2 ⟨sv,uv,S,he,hO,hF,hw⟩=>⟨_,he,⟨sv,uv,S,rfl,(iN OPhi.nice hO hF).from hbg.size⟩,hw⟩))
   simp only [Act.put,Known.val,aA,aD,aE]
   refine Grow.val (v := ?_) rfl rfl (fun wg hbg hdg => ?_) ?_
   rotate_left
   focus ((obtain ⟨cB,cF,da⟩:=be.out.later hbg);(have z0:=(hbg.cell (p:=⟨g1,k * 4,none⟩) ag).trans iy.out;have z1:=(hbg.cell (p:=⟨g1,k * 4+1,none⟩) ag).trans en.out;have z2:=(hbg.cell (p:=⟨g1,k * 4+2,none⟩) ag).trans gb.out;have z3:=(hbg.cell (p:=⟨g1,k * 4+3,none⟩) ag).trans ja.out);clear hbg hdg;first | (go_simp;done) | (go_simp;with_reducible rfl))
   simp only [Act.put,aA,aD,aE]
   intro wg hb hf ee
   clear ee
   clear bp bn br
   replace be:=h! (be.out.later hb)
   replace aq:=h! (aq.out.later hb)
   obtain ⟨bp,bn,br⟩:=be.out
   simp only [bH,Nat.reduceAdd]
   have h9:∃ (sv uv:Value) (S:Foot), ν 9 = .agg #[.int .i64 p.id,.int .i64 p.typ,sv,uv]/\Holds [] wr.heap.size wg S (fun W=>OPhi W S [.int .i64 p.id,.int .i64 p.typ,sv,uv] (iD O p)):=hf 9 (by omega)
   obtain ⟨sv,uv,SN,e9,k9⟩:=h9
   obtain ⟨⟨_,_,T1,T2,e5,o1,o2, -⟩, -⟩:=k9.now
   cases e5
   obtain ⟨sa,sc,rfl⟩:=o1.ints.form
   obtain ⟨ua,uc,rfl⟩:=o2.ints.form
   simp only [e9]
   obtain ⟨ls,kd⟩ : ∃ ls,ls=(iD O p).src.length:=⟨_,rfl⟩
   obtain ⟨lu,lx⟩ : ∃ lu,lu=(iD O p).vals.length:=⟨_,rfl⟩
   rw [<-kd, <-lx] at k9
   rw [<-kd, <-lx]
   have K9:=h! k9
   have lB:Hid (∀ q,Sp q -> q < wr.heap.size):=h! bh.out.lt
   have og:Hid (SN.off Sp):=h! (fun q h1 h2=>by have:=lB.out q h2;have:=K9.out.base q h1;omega)
   have z0:=(aq.out.cell (p:=⟨g1,k * 4,none⟩) ag).trans iy.out
   have z1:=(aq.out.cell (p:=⟨g1,k * 4+1,none⟩) ag).trans en.out
   have z2:=(aq.out.cell (p:=⟨g1,k * 4+2,none⟩) ag).trans gb.out
   have z3:=(aq.out.cell (p:=⟨g1,k * 4+3,none⟩) ag).trans ja.out
   have js:∀ o,wg.frozen? ⟨g1,o,none⟩=false:=fun o=>(aq.out.frozen (p:=⟨g1,o,none⟩) ag).trans (cw.out o)
   have ds:=h! (xD (bh.out.off OPhi.nice (Off.of_below aq.out Foot.none) (fun _ _ h=>h)) (j:=k) (q:=p) (by rw [fW];exact HP.out) (g:=g1) (cap:=cpx) (by rw [eV, <-bd.out]) K9.out.now og.out)
   have cG:=h! (qR wg g1 (k * 4) (.int .i64 p.id) (.int .i64 p.typ) (.slice sa ls sc) (.slice ua lu uc))
   unfold put4 at ds cG
   have hgwg:g1 < wg.heap.size:=by have:=aq.out.size;omega
   have mr:=h! js
   have ic:Hid (∀ q,SN q -> wr.heap.size <= q):=h! K9.out.base
   have mx:Hid (Below wr.heap.size wr wg):=aq
   clear e9 k9 hf o1 o2 kd lx hb K9
   --@S4
   go_upto_region 32 with (fail)
   clear z0 z1 z2 z3 js
   clear bp bn br
   have jw:Hid (∀ o,((((wg.setCell ⟨g1,k * 4,none⟩ (.int .i64 p.id)).setCell ⟨g1,k * 4+1,none⟩ (.int .i64 p.typ)).setCell ⟨g1,k * 4+2,none⟩ (.slice sa ls sc)).setCell ⟨g1,k * 4+3,none⟩ (.slice ua lu uc)).frozen? ⟨g1,o,none⟩=false):=h! (fun o=>by rw [mC,mC,mC,mC];exact mr.out o)
   generalize ((((wg.setCell ⟨g1,k * 4,none⟩ (.int .i64 p.id)).setCell ⟨g1,k * 4+1,none⟩ (.int .i64 p.typ)).setCell ⟨g1,k * 4+2,none⟩ (.slice sa ls sc)).setCell ⟨g1,k * 4+3,none⟩ (.slice ua lu uc))=dw at *
   have ck:Hid (Box dw ae #[.slice (some ⟨g1,0,none⟩) npx cpx,.slice bl aw ba,.int .i64 x1.term.op,.int .i64 x1.term.val,.slice bj ax bf,.int .i64 x1.term.n]):=h! (be.out.off cG.out (fun h=>by have e:ae=g1:=h;exact ll e.symm))
   have hr:Hid (Off S1 co dw):=h! ((fq.out.trans (Off.of_below mx.out _)).trans (cG.out.mono fun q _ hq=>by have e:q=g1:=hq;rw [e];exact fz.out))
   have ez:Hid (Below w5.heap.size w5 dw):=h! (fs.out.trans (Off.below hr.out il (fun q _ hq=>ak.out.2.2.2.1 q hq)))
   have dq:g1 < dw.heap.size:=by have:=cG.out.size;omega
   obtain ⟨g',c',af2,av2,cf2,cv2,Sv2,ly, -, -,hA, -⟩:=fS.vals ds.out (j:=k) (p:=iD O p) (by rw [eC (by rw [eV, <-bd.out];exact hlt3)])
   rw [bX,eV, <-bd.out] at ly
   obtain ⟨rfl,rfl⟩ : g1=g' /\ cpx=c':=by injection ly with q1 q2 q3;injection q1 with q1;injection q1 with q1;exact ⟨q1,q3⟩
   have fm:Hid (dw.cell? ⟨g1,k * 4,none⟩=some (.int .i64 p.id)):=h! hA.c0
   have fv:Hid (∀ wg,Below dw.heap.size dw wg -> Calls Tryz.prog 43 #[.slice pa nL pc,.int .i64 p.id] wg fun e W'=>e = .returned (.int .i64 (rn p.id))/\Below wg.heap.size wg W'):=h! (fun wg hbg=>hG.out wg p.id dx.out.1 (ez.out.trans (hbg.mono ez.out.size)))
   have bw:Hid (gA dw dw):=h! (Below.refl _ _)
   clear ly hA be aq mx bh gn cG mr iy en gb ja et mk
   obtain ⟨ev,er,ex⟩:=ck.out
   refine wp_region_grow 13 (fun kz=>match kz with | 10=>.const (.int .i64 (rn p.id)) | _=>.plain) (by kernel_rfl) (by kernel_rfl) ?_ (fun ν => ?_)
   ·(intro k;(try dsimp only);split <;> first | exact True.intro | (intro u w1 w2 hu hb;exact hu.below hb))
   simp only [aO,aS,aP,aU]
   iterate 10 (refine Grow.val (v := ?_) rfl rfl (fun wg hbg hdg => ?_) ?_;rotate_left;(focus ((obtain ⟨cB,cF,da⟩:=ck.out.later hbg);(have z0:=(hbg.cell (p:=⟨g1,k * 4,none⟩) dq).trans fm.out);clear hbg hdg;first | (go_simp;done) | (go_simp;with_reducible rfl)));simp only [Act.put,aA,aD,aE])
   refine Grow.call (f := ?_) (args := ?_) rfl (fun wg => ?_) (fun wg hbg hdg => ?_) ?_
   rotate_left 2
   focus (first | (go_simp;done) | (go_simp;refine And.intro ?_ ?_ <;> with_reducible rfl) | (go_simp;with_reducible rfl))
   focus exact Calls.mono (fv.out wg hbg) (fun e w2 ⟨he,hb2⟩=>⟨_,he,rfl,hb2⟩)
   simp only [Act.put,Known.val,aA,aD,aE]
   iterate 2 (refine Grow.val (v := ?_) rfl rfl (fun wg hbg hdg => ?_) ?_;rotate_left;(focus ((obtain ⟨cB,cF,da⟩:=ck.out.later hbg);(have z0:=(hbg.cell (p:=⟨g1,k * 4,none⟩) dq).trans fm.out);clear hbg hdg;first | (go_simp;done) | (go_simp;with_reducible rfl)));simp only [Act.put,aA,aD,aE])
   intro wg hb hf ee
   clear ee
   clear ev er ex
   replace ck:=h! (ck.out.later hb)
   replace bw:=h! (bw.out.later hb)
   obtain ⟨ev,er,ex⟩:=ck.out
   clear hf
   have z0:=(bw.out.cell (p:=⟨g1,k * 4,none⟩) dq).trans fm.out
   have js:∀ o,wg.frozen? ⟨g1,o,none⟩=false:=fun o=>(bw.out.frozen (p:=⟨g1,o,none⟩) dq).trans (jw.out o)
   have dm:Hid (fS (wg.setCell ⟨g1,k * 4,none⟩ (.int .i64 (rn p.id))) (fun q=>Sp q \/ SN q) (.slice (some ⟨g1,0,none⟩) npx cpx) (gC (refQ rn O) x1.phis (k+1))):=h! (by
    have h9:=fS.ident (ds.out.off OPhi.nice (Off.of_below bw.out Foot.none) (fun _ _ h=>h)) (j:=k) (p:=iD O p) (by rw [eC (by rw [eV, <-bd.out];exact hlt3)]) (g:=g1) (cap:=cpx) (by rw [bX,eV, <-bd.out]) (y:=rn p.id) (fp.out _ dx.out.1)
    rw [List.set_set,show ({ iD O p with id:=rn p.id }:PhiD)=refQ rn O p from rfl,fX HP.out] at h9
    exact h9)
   have cM:Hid (Off S1 co (wg.setCell ⟨g1,k * 4,none⟩ (.int .i64 (rn p.id)))):=h! ((hr.out.trans (Off.of_below bw.out _)).trans ((Off.set wg ⟨g1,k * 4,none⟩ _).mono fun q _ hq=>by have e:q=g1:=hq;rw [e];exact fz.out))
   have cr:Hid (∀ q,(Sp q \/ SN q) -> S1 q \/ co.heap.size <= q):=h! (fun q hq=>hq.elim (iw.out q) (fun h=>by have:=ic.out q h;right;omega))
   clear ds bw
   go_wp2
   go_roundw
   case rel=>exact ⟨k+1,_,hlt3,by go_num,dm.out,cr.out,cM.out⟩
   simp [intOf];omega
  obtain rfl:npx=k:=by omega
  have mc:Hid (fS wr Sp (.slice apx npx cpx) (x1.phis.map (refQ rn O))):=h! (by have h9:=bh.out;rw [bd.out,gD, <-bd.out] at h9;exact h9)
  have kc:Hid (∀ q,Sp q -> w5.heap.size <= q/\q ≠ ae):=h! (fun q hq=>by
   rcases iw.out q hq with h | h
   ·exact ⟨ak.out.2.2.2.1 q h,fun e=>ak.out.1 (e ▸ h)⟩
   exact ⟨by omega,by omega⟩)
  have cr:Hid (Sp.off S2/\Sp.off S3):=h! (by
   have l2:=H2.out.lt
   have l3:=H3.out.lt
   refine ⟨fun q h1 h2 => ?_,fun q h1 h2 => ?_⟩
   ·rcases iw.out q h1 with h | h
    ·exact gc.out.1 q h h2
    have:=l2 q h2;omega
   rcases iw.out q h1 with h | h
   ·exact gc.out.2.1 q h h2
   have:=l3 q h2;omega)
  have mh:Hid (gL wr S2 (.slice bl aw ba) x1.code):=h! (H2.out.off OInstr.nice fq.out (fun q h1 h2=>gc.out.1 q h2 h1))
  have mq:Hid (eU wr S3 (.slice bj ax bf) x1.term.to):=h! (H3.out.off fq.out (fun q h1 h2=>gc.out.2.1 q h2 h1))
  clear bh H1 H2 H3
  generalize wr=wa at *
  obtain ⟨bp,bn,br⟩:=be.out
  go_wp2_with fail
  clear bp bn br
  have ot:w5.heap.size <= wa.heap.size:=gn.out.size
  have hb15a:ae < wa.heap.size:=by omega
  --@S5
  go_loopw [17] (fun iv wr => ∃ k:Nat,k <= aw/\iv = .int .i64 k/\gL wr S2 (.slice bl aw ba) (gC (idX rn) x1.code k)/\Off S2 wa wr) (fun iv _=>aw - (intOf iv).toNat)
  case atStart=>exact ⟨0,aJ _,rfl,by rw [fR];exact mh.out,Off.refl _ _⟩
  obtain ⟨k,hk,rfl,eh,ho⟩:=hrel
  have bh:=h! eh
  have ff:=h! ho
  clear eh ho
  have bs:Hid (Box wr ae #[.slice apx npx cpx,.slice bl aw ba,.int .i64 x1.term.op,.int .i64 x1.term.val,.slice bj ax bf,.int .i64 x1.term.n]):=h! (be.out.off ff.out ak.out.2.1)
  have ef:Hid (Below w5.heap.size w5 wr):=h! (gn.out.trans (Off.below ff.out ot (fun q _ hq=>ak.out.2.2.2.2.1 q hq)))
  by_cases hlt3:k < aw
  ·obtain ⟨y,hy⟩ : ∃ y,x1.code[k]? = some y:=⟨_,aC (by rw [<-cx.out];exact hlt3)⟩
   --@J
   obtain ⟨g1,hZ,aa,ca,Sa,hv,ag,fB,jn,bi, -, -, -, -⟩:=gL.open bh.out (j:=k) (y:=y) (by rw [fW];exact hy)
   rw [eV, <-cx.out] at hv
   injection hv with e1 e2 e3
   subst e1
   subst e3
   have m1:=jn.c1
   have en:=h! m1
   have cw:=h! bi
   have fz:=h! fB
   have HY:=h! hy
   have ii:=h! jn.id64
   obtain ⟨bz,cc,cd⟩:=bs.out
   by_cases h0:0 <= y.id
   ·have jy:Hid (({ y with id:=rn y.id }:InstrD)=idX rn y):=h! (by unfold idX;rw [if_pos h0])
    have jk:decide (0 <= y.id)=true:=by simpa using h0
    have fv:Hid (∀ wg,Below wr.heap.size wr wg -> Calls Tryz.prog 43 #[.slice pa nL pc,.int .i64 y.id] wg fun e W'=>e = .returned (.int .i64 (rn y.id))/\Below wg.heap.size wg W'):=h! (fun wg hbg=>hG.out wg y.id ii.out (ef.out.trans (hbg.mono ef.out.size)))
    have aq:Hid (gA wr wr):=h! (Below.refl _ _)
    clear h0 hy jn bi fB e2
    go_upto_region 37 with (fail)
    clear m1 jk
    refine wp_region_grow 13 (fun kz=>match kz with | 10=>.const (.int .i64 (rn y.id)) | _=>.plain) (by kernel_rfl) (by kernel_rfl) ?_ (fun ν => ?_)
    ·(intro k;(try dsimp only);split <;> first | exact True.intro | (intro u w1 w2 hu hb;exact hu.below hb))
    simp only [aO,aS,aP,aU]
    iterate 10 (refine Grow.val (v := ?_) rfl rfl (fun wg hbg hdg => ?_) ?_;rotate_left;(focus ((obtain ⟨cB,cF,da⟩:=bs.out.later hbg);(have z1:=(hbg.cell (p:=⟨g1,k * 4+1,none⟩) ag).trans en.out);clear hbg hdg;first | (go_simp;done) | (go_simp;with_reducible rfl)));simp only [Act.put,aA,aD,aE])
    refine Grow.call (f := ?_) (args := ?_) rfl (fun wg => ?_) (fun wg hbg hdg => ?_) ?_
    rotate_left 2
    focus (first | (go_simp;done) | (go_simp;refine And.intro ?_ ?_ <;> with_reducible rfl) | (go_simp;with_reducible rfl))
    focus exact Calls.mono (fv.out wg hbg) (fun e w2 ⟨he,hb2⟩=>⟨_,he,rfl,hb2⟩)
    simp only [Act.put,Known.val,aA,aD,aE]
    iterate 2 (refine Grow.val (v := ?_) rfl rfl (fun wg hbg hdg => ?_) ?_;rotate_left;(focus ((obtain ⟨cB,cF,da⟩:=bs.out.later hbg);(have z1:=(hbg.cell (p:=⟨g1,k * 4+1,none⟩) ag).trans en.out);clear hbg hdg;first | (go_simp;done) | (go_simp;with_reducible rfl)));simp only [Act.put,aA,aD,aE])
    intro wg hb hf ee
    clear ee
    clear bz cc cd
    replace bs:=h! (bs.out.later hb)
    replace aq:=h! (aq.out.later hb)
    obtain ⟨bz,cc,cd⟩:=bs.out
    clear hf
    have z1:=(aq.out.cell (p:=⟨g1,k * 4+1,none⟩) ag).trans en.out
    have js:∀ o,wg.frozen? ⟨g1,o,none⟩=false:=fun o=>(aq.out.frozen (p:=⟨g1,o,none⟩) ag).trans (cw.out o)
    have dm:Hid (gL (wg.setCell ⟨g1,k * 4+1,none⟩ (.int .i64 (rn y.id))) S2 (.slice (some ⟨g1,0,none⟩) aw ba) (gC (idX rn) x1.code (k+1))):=h! (by
     have h9:=gL.ident (bh.out.off OInstr.nice (Off.of_below aq.out Foot.none) (fun _ _ h=>h)) (j:=k) (p:=y) (by rw [fW];exact HY.out) (g:=g1) (cap:=ba) (by rw [eV, <-cx.out]) (y:=rn y.id) (fp.out _ ii.out)
     rw [jy.out,fX HY.out] at h9
     exact h9)
    have cM:Hid (Off S2 wa (wg.setCell ⟨g1,k * 4+1,none⟩ (.int .i64 (rn y.id)))):=h! ((ff.out.trans (Off.of_below aq.out _)).trans ((Off.set wg ⟨g1,k * 4+1,none⟩ _).mono fun q _ hq=>by have e:q=g1:=hq;rw [e];exact fz.out))
    clear aq bh
    go_wp2
    go_roundw
    case rel=>exact ⟨k+1,hlt3,by go_num,dm.out,cM.out⟩
    simp [intOf];omega
   have gg:Hid (idX rn y=y):=h! (by unfold idX;rw [if_neg h0])
   have jk:decide (0 <= y.id)=false:=by simpa using h0
   have dm:Hid (gL wr S2 (.slice (some ⟨g1,0,none⟩) aw ba) (gC (idX rn) x1.code (k+1))):=h! (by rw [qF HY.out gg.out];exact bh.out)
   clear h0 hy jn bi fB e2
   go_wp2
   go_roundw
   case rel=>exact ⟨k+1,hlt3,by go_num,dm.out,ff.out⟩
   simp [intOf];omega
  obtain rfl:aw=k:=by omega
  have nh:Hid (gL wr S2 (.slice bl aw ba) (x1.code.map (idX rn))):=h! (by have h9:=bh.out;rw [cx.out,gD, <-cx.out] at h9;exact h9)
  have mw:Hid (fS wr Sp (.slice apx npx cpx) (x1.phis.map (refQ rn O))):=h! (mc.out.off OPhi.nice ff.out (fun q h1 h2=>cr.out.1 q h1 h2))
  have pi:Hid (eU wr S3 (.slice bj ax bf) x1.term.to):=h! (mq.out.off ff.out (fun q h1 h2=>gc.out.2.2 q h2 h1))
  clear bh mc mh mq
  generalize wr=wc at *
  obtain ⟨bz,cc,cd⟩:=bs.out
  go_wp2_with fail
  clear bz cc cd
  have pb:w5.heap.size <= wc.heap.size:=ef.out.size
  --@S6
  go_loopw [18] (fun iv wr => ∃ k:Nat,k <= ax/\iv = .int .i64 k/\eU wr S3 (.slice bj ax bf) (gC (plO O) x1.term.to k)/\Off S3 wc wr) (fun iv _=>ax - (intOf iv).toNat)
  case atStart=>exact ⟨0,aJ _,rfl,by rw [fR];exact pi.out,Off.refl _ _⟩
  obtain ⟨k,hk,rfl,eh,ho⟩:=hrel
  have bh:=h! eh
  have fF:=h! ho
  clear eh ho
  have bt:Hid (Box wr ae #[.slice apx npx cpx,.slice bl aw ba,.int .i64 x1.term.op,.int .i64 x1.term.val,.slice bj ax bf,.int .i64 x1.term.n]):=h! (bs.out.off fF.out ak.out.2.2.1)
  have bg:Hid (Below w5.heap.size w5 wr):=h! (ef.out.trans (Off.below fF.out pb (fun q _ hq=>ak.out.2.2.2.2.2 q hq)))
  by_cases hlt3:k < ax
  ·obtain ⟨q0,jf⟩ : ∃ y,x1.term.to[k]? = some y:=⟨_,aC (by rw [<-cq.out];exact hlt3)⟩
   --@K
   have od:q0 ∈ x.term.to:=by
    have h9:=aG jf
    rw [fM.out] at h9
    unfold mapB mapT at h9
    simp only at h9
    split at h9 <;> exact h9
   have pp:=mF (fC HZ.out.1).1 HX.out q0 od
   obtain ⟨qn,rfl⟩ : ∃ qn:Nat,q0=qn:=⟨q0.toNat,by omega⟩
   have lj:qn ∈ O:=nD HO.out dp.out qn (by omega)
   have lw:Hid (idxI (natI O) (qn:Int)=plO O (qn:Int)):=h! (aFQ HO.out.facts.1 lj)
   have lf:Hid (In64 (plO O (qn:Int))):=h! (by have:=bM lj;unfold plO;rw [dO];have:=fw.out;exact ⟨by omega,by omega⟩)
   obtain ⟨g1,hZ,hv,fB,ag,ew,bi, -⟩:=bh.out.addr (i:=k) (x:=(qn:Int)) (by rw [fW];exact jf)
   rw [eV, <-cq.out] at hv
   injection hv with e1 e2 e3
   subst e1
   subst e3
   have dr:=h! ew
   have cw:=h! bi
   have fz:=h! fB
   have oh:=h! jf
   have aq:Hid (gA wr wr):=h! (Below.refl _ _)
   have ky:Hid (∀ wg,Below wr.heap.size wr wg -> Calls Tryz.prog 44 #[.slice (some ⟨ob,oo,none⟩) no oc,.int .i64 (qn:Int)] wg fun e W'=>e = .returned (.int .i64 (plO O (qn:Int)))/\Below wg.heap.size wg W'):=h! (fun wg hbg=>(rZ (x:=(qn:Int)) (gv.out.below (bg.out.trans (hbg.mono bg.out.size)))).mono fun e w' ⟨h1,h2⟩=>⟨by rw [h1,lw.out],by rw [<-h2];exact Below.refl _ _⟩)
   clear bi fB e2 jf pp od ew lj
   obtain ⟨cj,ci,ch⟩:=bt.out
   go_upto_region 41 with (fail)
   refine wp_region_grow 13 (fun kz=>match kz with | 11=>.const (.int .i64 (plO O (qn:Int))) | _=>.plain) (by kernel_rfl) (by kernel_rfl) ?_ (fun ν => ?_)
   ·(intro k;(try dsimp only);split <;> first | exact True.intro | (intro u w1 w2 hu hb;exact hu.below hb))
   simp only [aO,aS,aP,aU]
   iterate 11 (refine Grow.val (v := ?_) rfl rfl (fun wg hbg hdg => ?_) ?_;rotate_left;(focus ((obtain ⟨cB,cF,da⟩:=bt.out.later hbg);(have z1:=(hbg.cell (p:=⟨g1,k,none⟩) ag).trans dr.out);clear hbg hdg;first | (go_simp;done) | (go_simp;with_reducible rfl)));simp only [Act.put,aA,aD,aE])
   refine Grow.call (f := ?_) (args := ?_) rfl (fun wg => ?_) (fun wg hbg hdg => ?_) ?_
   rotate_left 2
   focus (first | (go_simp;done) | (go_simp;refine And.intro ?_ ?_ <;> with_reducible rfl) | (go_simp;with_reducible rfl))
   focus exact Calls.mono (ky.out wg hbg) (fun e w2 ⟨he,hb2⟩=>⟨_,he,rfl,hb2⟩)
   simp only [Act.put,Known.val,aA,aD,aE]
   refine Grow.val (v := ?_) rfl rfl (fun wg hbg hdg => ?_) ?_
   rotate_left
   focus ((obtain ⟨cB,cF,da⟩:=bt.out.later hbg);(have z1:=(hbg.cell (p:=⟨g1,k,none⟩) ag).trans dr.out);clear hbg hdg;first | (go_simp;done) | (go_simp;with_reducible rfl))
   simp only [Act.put,aA,aD,aE]
   intro wg hb hf ee
   clear ee
   clear cj ci ch
   replace bt:=h! (bt.out.later hb)
   replace aq:=h! (aq.out.later hb)
   obtain ⟨cj,ci,ch⟩:=bt.out
   clear hf
   have hcl2:=(aq.out.cell (p:=⟨g1,k,none⟩) ag).trans dr.out
   have hfz2:∀ o,wg.frozen? ⟨g1,o,none⟩=false:=fun o=>(aq.out.frozen (p:=⟨g1,o,none⟩) ag).trans (cw.out o)
   have dm:Hid (eU (wg.setCell ⟨g1,k,none⟩ (.int .i64 (plO O (qn:Int)))) S3 (.slice (some ⟨g1,0,none⟩) ax bf) (gC (plO O) x1.term.to (k+1))):=h! (by
    have h9:=eU.set (bh.out.off (Off.of_below aq.out Foot.none) (fun _ _ h=>h)) (g:=g1) (cap:=bf) (by rw [eV, <-cq.out]) (i:=k) (by rw [eV, <-cq.out];exact hlt3) lf.out
    rw [fX oh.out] at h9
    exact h9)
   have cM:Hid (Off S3 wc (wg.setCell ⟨g1,k,none⟩ (.int .i64 (plO O (qn:Int))))):=h! ((fF.out.trans (Off.of_below aq.out _)).trans ((Off.set wg ⟨g1,k,none⟩ _).mono fun z _ hz=>by have h9:z=g1:=hz;rw [h9];exact fz.out))
   clear aq bh dr
   go_wp2
   go_roundw
   case rel=>exact ⟨k+1,hlt3,by go_num,dm.out,cM.out⟩
   simp [intOf];omega
  obtain rfl:ax=k:=by omega
  have nq:Hid (eU wr S3 (.slice bj ax bf) (x1.term.to.map (plO O))):=h! (by have h9:=bh.out;rw [cq.out,gD, <-cq.out] at h9;exact h9)
  clear bh
  generalize wr=we at *
  have qb:wg.heap.size <= we.heap.size:=by have:=fF.out.size;have:=ff.out.size;have:=fq.out.size;omega
  have nd:Hid (OBlock we (fun q=>Sx q \/ Sp q) [.slice apx npx cpx,.slice bl aw ba,.int .i64 x1.term.op,.int .i64 x1.term.val,.slice bj ax bf,.int .i64 x1.term.n] (refB rn O x)):=h! (by
   have h9:=lv.out we Sp _ _ _ (mw.out.off OPhi.nice fF.out (fun q h1 h2=>cr.out.2 q h1 h2)) (nh.out.off OInstr.nice fF.out (fun q h1 h2=>gc.out.2.2 q h1 h2)) nq.out cr.out.1 cr.out.2 qb
   rw [fM.out,xC] at h9
   rw [<-fM.out] at h9
   exact h9)
  have eb:Hid (Holds [] w5.heap.size we (fun q=>Sx q \/ Sp q) (fun W=>OBlock W (fun q=>Sx q \/ Sp q) [.slice apx npx cpx,.slice bl aw ba,.int .i64 x1.term.op,.int .i64 x1.term.val,.slice bj ax bf,.int .i64 x1.term.n] (refB rn O x))):=h! (iN OBlock.nice nd.out (fun q hq=>hq.elim (jc.out q) (fun h=>(kc.out q h).1)))
  have lk:Hid (∀ q,SB q -> q < w5.heap.size):=h! fL.out.lt
  have qd:Hid (Foot.off (fun q=>Sx q \/ Sp q) SB):=h! (fun q h1 h2=>by have:=lk.out q h2;have:=eb.out.base q h1;omega)
  have qa:=h! (eT _ _ _ oi.out)
  have kr:Hid (((O.take j).map fun b=>refB rn O (jO f b)).length=j):=h! (by rw [aW,aV];have:=fw.out;omega)
  have kw:Hid (Box we bc #[.slice pq np qc,.int .i64 ar,.int .i64 ce,.slice av j cv]):=h! (BC.out.later bg.out)
  have fc:Hid (Holds [] wb.heap.size we SB (fun W=>fA W SB (.slice av j cv) ((O.take j).map fun b=>refB rn O (jO f b)))):=h! ((fL.out.later bg.out).less (by simp))
  have jl:Hid (Holds [bc] wb.heap.size we SQ (fun W=>eU W SQ (.slice pq np qc) f.params)):=h! (HQ.out.later bg.out)
  have ej:Hid (Holds [bc] 0 we (fun k=>k < wb.heap.size) (OldK wb)):=h! (ad.out.later bg.out)
  have kl:Hid (Below w.heap.size w we):=h! (nr.out.trans (bg.out.mono nr.out.size))
  have cz:Hid (Holds [] wb.heap.size we (fun q=>Sx q \/ Sp q) (fun W=>OBlock W (fun q=>Sx q \/ Sp q) [.slice apx npx cpx,.slice bl aw ba,.int .i64 x1.term.op,.int .i64 x1.term.val,.slice bj ax bf,.int .i64 x1.term.n] (refB rn O x))):=h! (eb.out.from (by have:=ey.out.size;omega))
  have hwbe:wb.heap.size <= we.heap.size:=by have:=ey.out.size;have:=bg.out.size;omega
  --@S7
  have fg:Hid (∀ q,(Sx q \/ Sp q) -> w5.heap.size <= q):=h! eb.out.base
  clear mw nh nq nd fL HQ ad eb
  obtain ⟨jx,jt,kP⟩:=kw.out
  obtain ⟨cj,ci,ch⟩:=bt.out
  have nx:∀ b ∈ ([] : List Nat),b < wb.heap.size:=by intro b hb;cases hb
  have nf:∀ o:Obj,wb.heap.size <= (we.alloc o).heap.size:=fun o=>by rw [World.size_alloc];omega
  have ny:j+1 <= 17592186044416:=by omega
  have mb:(j+1) * 96 <= 140737488355328:=by omega
  have ns:∀ u ∈ ([.slice apx npx cpx,.slice bl aw ba,.int .i64 x1.term.op,.int .i64 x1.term.val,.slice bj ax bf,.int .i64 x1.term.n] : List Value),u.oneCell' = true:=by simp [Value.oneCell']
  have ln:Hid (¬ SB bc):=h! (fun h=>gB.out _ h (by simp))
  go_upto_region 26 with (at_builtin;go_loud (refine iW OBlock.nice rfl _ _ 23 63 rfl rE rfl rfl kr.out (fc.out.alloc _) (Box.new _ _ _) rfl (cz.out.alloc _).now qd.out cz.out.base nx (nf _) ns ny mb ?_);intro v2 ig SN q1 q2 q3 q4;obtain ⟨g2,c2,rfl⟩:=q4;have fj:=h! ((kw.out.alloc _).off q3 ln.out);have mj:=h! q1;have es:=h! q2;have mn:=h! q3;clear q1 q2 q3;obtain ⟨l5,c5,f5⟩:=fj.out)
  clear l5 c5 f5 nx nf ny mb ns
  clear jx jt kP cj ci ch
  have fh:Hid (Off (Foot.one bc) ig (ig.setCell ⟨bc,3,none⟩ (.slice (some ⟨g2,0,none⟩) (j+1) c2))):=h! (Off.set ig ⟨bc,3,none⟩ _)
  have pt:Hid (Box (ig.setCell ⟨bc,3,none⟩ (.slice (some ⟨g2,0,none⟩) (j+1) c2)) bc #[.slice pq np qc,.int .i64 ar,.int .i64 ce,.slice (some ⟨g2,0,none⟩) (j+1) c2]):=h! (by simpa using fj.out.set 3 (.slice (some ⟨g2,0,none⟩) (j+1) c2))
  generalize ig.setCell ⟨bc,3,none⟩ (.slice (some ⟨g2,0,none⟩) (j+1) c2)=im at *
  have hbce:bc < w5.heap.size:=BC.out.lt
  have ea:Hid (Off (fun q=>SB q \/ q=bc \/ we.heap.size <= q) we im):=h! (((Off.alloc _ _ _).trans (mn.out.mono fun q _ h=>.inl h)).trans (fh.out.mono fun q _ h=>.inr (.inl h)))
  have ib:Hid (∀ q,SB q -> wb.heap.size <= q):=h! fc.out.base
  have pj:Hid (Below w.heap.size w im):=h! (kl.out.trans (Off.below ea.out kl.out.size (fun q _ h=>by
   have:=mz.out.size
   rcases h with h | h | h
   ·have:=ib.out q h;omega
   ·omega
   omega)))
  have ir:Hid (Holds [bc] 0 im (fun k=>k < wb.heap.size) (OldK wb)):=h! (ej.out.off ea.out (fun q h1 h2=>by
   rcases h2 with h | h | h
   ·have:=ib.out q h;omega
   ·omega
   omega))
  have oq:Hid (Holds [bc] wb.heap.size im SQ (fun W=>eU W SQ (.slice pq np qc) f.params)):=h! (jl.out.off ea.out (fun q h1 h2=>by
   rcases h2 with h | h | h
   ·exact jv.out q h1 h
   ·exact jl.out.free q h1 (by rw [h];simp)
   have:=jl.out.lt q h1;omega))
  have ia:Hid (∀ q,SN q -> SB q \/ w5.heap.size <= q):=h! (fun q hq=>by
   rcases es.out q hq with h | h | h
   ·exact .inl h
   ·exact .inr (fg.out q h)
   right;rw [World.size_alloc] at h;have:=bg.out.size;omega)
  have gj:Hid (∀ q,SN q -> q ∉ [bc]):=h! (fun q hq hm=>by
   rcases ia.out q hq with h | h
   ·exact gB.out q h hm
   simp at hm;omega)
  have kf:Hid (Holds [bc] wb.heap.size im SN (fun W=>fA W SN (.slice (some ⟨g2,0,none⟩) (j+1) c2) ((O.take (j+1)).map fun b=>refB rn O (jO f b)))):=h! (by
   have h9:=mj.out.off fh.out (fun q h1 h2=>gj.out q h1 (by cases h2;simp))
   rw [qa.out,aZ,cY,eE,kq.out]
   exact ⟨h9.now,h9.keep,h9.lt,h9.base,gj.out⟩)
  have kL:Hid (SQ.off SN):=h! (fun q h1 h2=>by
   rcases ia.out q h2 with h | h
   ·exact jv.out q h1 h
   have:=km.out q h1;omega)
  clear mj es mn fh fj fc cz kw bt ea kl ej jl
  go_wp2
  go_roundw
  case rel=>exact ⟨j+1,_,SN,hlt2,by go_num,ir.out,pj.out,pt.out,oq.out,kf.out,kL.out,_,_,rfl⟩
  simp [intOf];omega
 obtain rfl:no=j:=by omega
 have fb:Hid (Holds [bc] wb.heap.size w5 SB (fun W=>fA W SB (.slice av no cv) (rL f O).blocks)):=h! (by
  have h9:=fL.out
  rw [aH (by rw [<-fw.out];exact aB _),ox.out,jp.out] at h9
  exact h9)
 have ix:Hid (Box w5 (w.heap.size+1) #[.slice none 0 0,.int .i64 0,.int .i64 0,.slice none 0 0]):=h! (mv.out.later ey.out)
 have lz:Hid (RenP f (rL f O) 0):=h! ⟨0,HS.out,.inr ⟨rfl,rfl,O,HO.out,(aCA HZ.out.1 HO.out dp.out).symm⟩⟩
 have kk:w.heap.size+1 < wb.heap.size:=mv.out.lt
 have es:Hid (Holds [w.heap.size+1,bc] wb.heap.size w5 SQ (fun W=>eU W SQ (.slice pq np qc) f.params)):=h! ⟨HQ.out.now,HQ.out.keep,HQ.out.lt,HQ.out.base,fun k hk hm=>by have:=HQ.out.base k hk;have:=HQ.out.free k hk;simp at hm this;omega⟩
 have hh:Hid (Holds [w.heap.size+1,bc] wb.heap.size w5 SB (fun W=>fA W SB (.slice av no cv) (rL f O).blocks)):=h! ⟨fb.out.now,fb.out.keep,fb.out.lt,fb.out.base,fun k hk hm=>by have:=fb.out.base k hk;have:=fb.out.free k hk;simp at hm this;omega⟩
 clear fL fb ad
 obtain ⟨gs,hU,hD⟩:=ix.out
 obtain ⟨iz,jj,jg⟩:=BC.out
 go_wp2
 clear gs hU hD iz jj jg
 have bx:=((((Only.set w5 (w.heap.size+1) 0 (.slice pq np qc)).put 1 (.int .i64 ar)).put 2 (.int .i64 ce)).put 3 (.slice av no cv))
 replace BC:=h! (BC.out.only bx (by first | assumption | (simp;done) | omega))
 replace es:=h! ((((es.out.other (p:=⟨w.heap.size+1,0,none⟩) (.slice pq np qc) (by simp)).other (p:=⟨w.heap.size+1,1,none⟩) (.int .i64 ar) (by simp)).other (p:=⟨w.heap.size+1,2,none⟩) (.int .i64 ce) (by simp)).other (p:=⟨w.heap.size+1,3,none⟩) (.slice av no cv) (by simp))
 replace hh:=h! ((((hh.out.other (p:=⟨w.heap.size+1,0,none⟩) (.slice pq np qc) (by simp)).other (p:=⟨w.heap.size+1,1,none⟩) (.int .i64 ar) (by simp)).other (p:=⟨w.heap.size+1,2,none⟩) (.int .i64 ce) (by simp)).other (p:=⟨w.heap.size+1,3,none⟩) (.slice av no cv) (by simp))
 replace HW:=h! (bx.2.2 HW.out (by first | assumption | omega | (have:=HW.out.size;omega) | (simp;done) | (simp;omega)))
 replace ix:=h! (Box.to (A':=#[(.slice pq np qc),(.int .i64 ar),(.int .i64 ce),(.slice av no cv)]) ((((ix.out.set 0 (.slice pq np qc)).set 1 (.int .i64 ar)).set 2 (.int .i64 ce)).set 3 (.slice av no cv)) (by first | rfl | simp))
 clear bx
 generalize ((((w5.setCell ⟨w.heap.size+1,0,none⟩ (.slice pq np qc)).setCell ⟨w.heap.size+1,1,none⟩ (.int .i64 ar)).setCell ⟨w.heap.size+1,2,none⟩ (.int .i64 ce)).setCell ⟨w.heap.size+1,3,none⟩ (.slice av no cv))=wz at *
 obtain ⟨gs,hU,hD⟩:=ix.out
 obtain ⟨iz,jj,jg⟩:=BC.out
 refine bodyPost_ret (v:=.tuple #[.agg #[.slice pq np qc,.int .i64 ar,.int .i64 ce,.slice av no cv],.int .i64 0]) (by simp [results,Tryz.results12,go_sem, *]) rfl ⟨_,0,_,fun k=>SQ k \/ SB k,lz.out,rfl,⟨⟨_,_,SQ,SB,by rw [jb.out.1,jb.out.2];rfl,es.out.now,hh.out.now,jv.out,fun _ h=>.inl h,fun _ h=>.inr h⟩,fun k hk=>hk.elim (es.out.lt k) (hh.out.lt k),lS.out.1,lS.out.2⟩,fun k hk=>by have:=hk.elim (es.out.base k) (hh.out.base k);omega,HW.out⟩
end
section
open Go.RowKit
theorem aAB (hren:∀ (W:World) (v:Value) (f:FuncD),fU W v f -> Calls Tryz.prog 12 #[v] W (RenR f W)) {w:World} {v v' : Value} {f g:FuncD} (hf:fU w v f) (hg:fU w v' g) :
  Calls Tryz.prog 16 #[v,v'] w fun e w' => ∃ r,e = .returned (.bool r)/\oM f g r/\Below w.heap.size w w':=by
 have HF:=h! hf
 have HG:=h! hg
 have bg:=h! hren
 obtain ⟨ap,cp,ab,cb,rfl, -, -, -, -⟩:=hf.form
 obtain ⟨be,bd,az,bc,rfl, -, -, -, -⟩:=hg.form
 clear hf hg hren
 go_enter Tryz.func16,Tryz.ntmps16
 go_upto_region 1 with (fail)
 have aa:=(Below.refl w.heap.size w).alloc (aB _) (.cells #[.slice ap f.params.length cp,.int .i64 f.arrays,.int .i64 f.cells,.slice ab f.blocks.length cb] 25)
 have HW:=h! aa
 clear aa
 have B1:=h! (Box.new w #[.slice ap f.params.length cp,.int .i64 f.arrays,.int .i64 f.cells,.slice ab f.blocks.length cb] 25)
 have aq:(w.alloc (.cells #[.slice ap f.params.length cp,.int .i64 f.arrays,.int .i64 f.cells,.slice ab f.blocks.length cb] 25)).heap.size=w.heap.size+1:=World.size_alloc _ _
 generalize w.alloc (.cells #[.slice ap f.params.length cp,.int .i64 f.arrays,.int .i64 f.cells,.slice ab f.blocks.length cb] 25)=aw at *
 have aa:=(Below.refl aw.heap.size aw).alloc (aB _) (.cells #[.slice be g.params.length bd,.int .i64 g.arrays,.int .i64 g.cells,.slice az g.blocks.length bc] 25)
 replace B1:=h! (B1.out.later aa)
 replace HW:=h! (HW.out.trans (aa.mono HW.out.size))
 clear aa
 have B2:=h! (Box.new aw #[.slice be g.params.length bd,.int .i64 g.arrays,.int .i64 g.cells,.slice az g.blocks.length bc] 25)
 rw [aq] at B2
 clear aq
 generalize aw.alloc (.cells #[.slice be g.params.length bd,.int .i64 g.arrays,.int .i64 g.cells,.slice az g.blocks.length bc] 25)=wv at *
 obtain ⟨ac,ah,ag⟩:=B1.out
 obtain ⟨ad,ae,af⟩:=B2.out
 go_wp2_with fail
 refine (bg.out _ _ _ (HF.out.below HW.out)).mono ?_
 rintro e w1 ⟨a,k,v1,S1,bh,rfl,bb,bl,hb⟩
 obtain ⟨ax,cx,bx,dx,rfl, -, -, -, -⟩:=bb.reads.form
 have bo:=h! bh
 have HA:=h! (iV bb bl)
 clear bh bb bl
 clear ac ah ag ad ae af
 replace B1:=h! (B1.out.later hb)
 replace B2:=h! (B2.out.later hb)
 replace HW:=h! (HW.out.trans (hb.mono HW.out.size))
 clear hb
 obtain ⟨ac,ah,ag⟩:=B1.out
 obtain ⟨ad,ae,af⟩:=B2.out
 go_upto_region 2 with (fail)
 replace HA:=h! (HA.out.more (aB _))
 have al:w1.heap.size ≠ w.heap.size:=fun e=>by have:=ac;omega
 have nB1B3:w.heap.size ≠ w1.heap.size:=fun e=>al e.symm
 have ao:w1.heap.size ≠ w.heap.size+1:=fun e=>by have:=ad;omega
 have nB2B3:w.heap.size+1 ≠ w1.heap.size:=fun e=>ao e.symm
 clear ac ah ag ad ae af
 have aa:=(Below.refl w1.heap.size w1).alloc (aB _) (.cells #[.slice ax a.params.length cx,.int .i64 a.arrays,.int .i64 a.cells,.slice bx a.blocks.length dx] 25)
 replace B1:=h! (B1.out.later aa)
 replace B2:=h! (B2.out.later aa)
 replace HA:=h! (HA.out.later aa)
 replace HW:=h! (HW.out.trans (aa.mono HW.out.size))
 clear aa
 have B3:=h! (Box.new w1 #[.slice ax a.params.length cx,.int .i64 a.arrays,.int .i64 a.cells,.slice bx a.blocks.length dx] 25)
 generalize w1.alloc (.cells #[.slice ax a.params.length cx,.int .i64 a.arrays,.int .i64 a.cells,.slice bx a.blocks.length dx] 25)=w2 at *
 obtain ⟨ac,ah,ag⟩:=B1.out
 obtain ⟨ad,ae,af⟩:=B2.out
 obtain ⟨ai,ak,aj⟩:=B3.out
 go_wp2_with fail
 refine (bg.out _ _ _ (HG.out.below HW.out)).mono ?_
 rintro e w3 ⟨b,h,v2,S2,bi,rfl,ba,bf,hb⟩
 obtain ⟨ay,cy,dy,ey,rfl, -, -, -, -⟩:=ba.reads.form
 have HP:Hid (RenP f a k/\RenP g b h):=h! ⟨bo.out,bi⟩
 have HB:=h! (iV ba bf)
 clear bi ba bf
 clear ac ah ag ad ae af ai ak aj
 replace B1:=h! (B1.out.later hb)
 replace B2:=h! (B2.out.later hb)
 replace B3:=h! (B3.out.later hb)
 replace HA:=h! (HA.out.later hb)
 replace HW:=h! (HW.out.trans (hb.mono HW.out.size))
 clear hb
 obtain ⟨ac,ah,ag⟩:=B1.out
 obtain ⟨ad,ae,af⟩:=B2.out
 obtain ⟨ai,ak,aj⟩:=B3.out
 go_upto_region 3 with (fail)
 replace HA:=h! (HA.out.more (aB _))
 replace HB:=h! (HB.out.more (aB _))
 have an:w3.heap.size ≠ w.heap.size:=fun e=>by have:=ac;omega
 have nB1B4:w.heap.size ≠ w3.heap.size:=fun e=>an e.symm
 have am:w3.heap.size ≠ w.heap.size+1:=fun e=>by have:=ad;omega
 have nB2B4:w.heap.size+1 ≠ w3.heap.size:=fun e=>am e.symm
 have ar:w3.heap.size ≠ w1.heap.size:=fun e=>by have:=ai;omega
 have nB3B4:w1.heap.size ≠ w3.heap.size:=fun e=>ar e.symm
 clear ac ah ag ad ae af ai ak aj
 have aa:=(Below.refl w3.heap.size w3).alloc (aB _) (.cells #[.slice ay b.params.length cy,.int .i64 b.arrays,.int .i64 b.cells,.slice dy b.blocks.length ey] 25)
 replace B1:=h! (B1.out.later aa)
 replace B2:=h! (B2.out.later aa)
 replace B3:=h! (B3.out.later aa)
 replace HA:=h! (HA.out.later aa)
 replace HB:=h! (HB.out.later aa)
 replace HW:=h! (HW.out.trans (aa.mono HW.out.size))
 clear aa
 have B4:=h! (Box.new w3 #[.slice ay b.params.length cy,.int .i64 b.arrays,.int .i64 b.cells,.slice dy b.blocks.length ey] 25)
 generalize w3.alloc (.cells #[.slice ay b.params.length cy,.int .i64 b.arrays,.int .i64 b.cells,.slice dy b.blocks.length ey] 25)=w4 at *
 obtain ⟨ac,ah,ag⟩:=B1.out
 obtain ⟨ad,ae,af⟩:=B2.out
 obtain ⟨ai,ak,aj⟩:=B3.out
 obtain ⟨bm,bn,bk⟩:=B4.out
 obtain ⟨r,hr⟩ : ∃ r,r=decide (a=b):=⟨_,rfl⟩
 have bj:=h! hr
 clear hr
 cases hk:(k == 0)
 ·have HR:Hid (false=(((k == 0) && (h == 0)) && decide (a=b))):=h! (by rw [hk];rfl)
  go_wp2
  go_ret
  exact ⟨_,rfl,⟨a,b,k,h,HP.out.1,HP.out.2,HR.out⟩,HW.out⟩
 cases hh:(h == 0)
 ·have HR:Hid (false=(((k == 0) && (h == 0)) && decide (a=b))):=h! (by rw [hk,hh];rfl)
  go_wp2
  go_ret
  exact ⟨_,rfl,⟨a,b,k,h,HP.out.1,HP.out.2,HR.out⟩,HW.out⟩
 have HR:Hid (r=(((k == 0) && (h == 0)) && decide (a=b))):=h! (by rw [hk,hh,bj.out];rfl)
 go_wp2_with fail
 refine (uS HA.out.now.reads HB.out.now.reads).mono ?_
 rintro e w5 ⟨rfl,hb⟩
 rw [<-bj.out]
 clear ac ah ag ad ae af ai ak aj bm bn bk
 replace B1:=h! (B1.out.later hb)
 replace B2:=h! (B2.out.later hb)
 replace B3:=h! (B3.out.later hb)
 replace B4:=h! (B4.out.later hb)
 replace HA:=h! (HA.out.later hb)
 replace HB:=h! (HB.out.later hb)
 replace HW:=h! (HW.out.trans (hb.mono HW.out.size))
 clear hb
 obtain ⟨ac,ah,ag⟩:=B1.out
 obtain ⟨ad,ae,af⟩:=B2.out
 obtain ⟨ai,ak,aj⟩:=B3.out
 obtain ⟨bm,bn,bk⟩:=B4.out
 go_wp2
 go_ret
 exact ⟨_,rfl,⟨a,b,k,h,HP.out.1,HP.out.2,HR.out⟩,HW.out⟩
theorem wZ {P:Program} {k:FuncId} {args:Array Value} {w:World} {R:Ending -> World -> Prop} (h:Calls P k args w R):∃ e w',R e w':=let ⟨e,w',_,r,_⟩:=h []; ⟨e,w',r⟩
theorem oM.one {f g:FuncD} {r r' : Bool} (h:oM f g r) (h' : oM f g r'):r=r':=by
 obtain ⟨a,b,k,q,h1,h2,rfl⟩:=h
 obtain ⟨a',b',k',q',h3,h4,rfl⟩:=h'
 obtain ⟨rfl,rfl⟩:=h1.one h3
 obtain ⟨rfl,rfl⟩:=h2.one h4
 rfl
set_option maxRecDepth 100000 in
theorem tV {w:World} {v u:Value} (f g:FuncD) (hv:fU w v f) (hu:fU w u g) :
  Calls Tryz.prog 3 #[v,u] w fun e w'=>e = .returned (.bool true)/\Below w.heap.size w w':=by
 obtain ⟨_,_,r, -,hr, -⟩:=wZ (zS hv hu)
 have HR:=h! hr
 have HV:=h! hv
 have HU:=h! hu
 obtain ⟨ap,cp,ab,cb,rfl, -, -, -, -⟩:=hv.form
 obtain ⟨bb,az,ao,ar,rfl, -, -, -, -⟩:=hu.form
 clear hv hu hr
 go_enter Tryz.func3,Tryz.ntmps3
 go_upto_region 1 with (fail)
 have aa:=(Below.refl w.heap.size w).alloc (aB _) (.cells #[.slice ap f.params.length cp,.int .i64 f.arrays,.int .i64 f.cells,.slice ab f.blocks.length cb] 25)
 have HW:=h! aa
 clear aa
 have B2:=h! (Box.new w #[.slice ap f.params.length cp,.int .i64 f.arrays,.int .i64 f.cells,.slice ab f.blocks.length cb] 25)
 have ba:(w.alloc (.cells #[.slice ap f.params.length cp,.int .i64 f.arrays,.int .i64 f.cells,.slice ab f.blocks.length cb] 25)).heap.size=w.heap.size+1:=World.size_alloc _ _
 generalize w.alloc (.cells #[.slice ap f.params.length cp,.int .i64 f.arrays,.int .i64 f.cells,.slice ab f.blocks.length cb] 25)=bc at *
 have aa:=(Below.refl bc.heap.size bc).alloc (aB _) (.cells #[.slice bb g.params.length az,.int .i64 g.arrays,.int .i64 g.cells,.slice ao g.blocks.length ar] 25)
 replace B2:=h! (B2.out.later aa)
 replace HW:=h! (HW.out.trans (aa.mono HW.out.size))
 clear aa
 have B3:=h! (Box.new bc #[.slice bb g.params.length az,.int .i64 g.arrays,.int .i64 g.cells,.slice ao g.blocks.length ar] 25)
 rw [ba] at B3
 clear ba
 generalize bc.alloc (.cells #[.slice bb g.params.length az,.int .i64 g.arrays,.int .i64 g.cells,.slice ao g.blocks.length ar] 25)=wv at *
 obtain ⟨ad,af,ag⟩:=B2.out
 obtain ⟨ac,ah,ae⟩:=B3.out
 go_wp2_with fail
 refine (tR _ _ _ (HV.out.below HW.out)).mono ?_
 rintro e w1 ⟨a,k,v1,S1,hp,rfl,hO,hF,hb⟩
 obtain ⟨ax,cx,bx,dx,rfl, -, -, -, -⟩:=hO.reads.form
 have HA:=h! (iV hO hF)
 have HP:=h! hp
 clear hp hO hF
 clear ad af ag ac ah ae
 replace B2:=h! (B2.out.later hb)
 replace B3:=h! (B3.out.later hb)
 replace HW:=h! (HW.out.trans (hb.mono HW.out.size))
 clear hb
 obtain ⟨ad,af,ag⟩:=B2.out
 obtain ⟨ac,ah,ae⟩:=B3.out
 go_upto_region 2 with (fail)
 replace HA:=h! (HA.out.more (aB _))
 have al:w1.heap.size ≠ w.heap.size:=fun e=>by have:=ad;omega
 have nB2B5:w.heap.size ≠ w1.heap.size:=fun e=>al e.symm
 have am:w1.heap.size ≠ w.heap.size+1:=fun e=>by have:=ac;omega
 have nB3B5:w.heap.size+1 ≠ w1.heap.size:=fun e=>am e.symm
 clear ad af ag ac ah ae
 have aa:=(Below.refl w1.heap.size w1).alloc (aB _) (.cells #[.slice ax a.params.length cx,.int .i64 a.arrays,.int .i64 a.cells,.slice bx a.blocks.length dx] 25)
 replace B2:=h! (B2.out.later aa)
 replace B3:=h! (B3.out.later aa)
 replace HA:=h! (HA.out.later aa)
 replace HW:=h! (HW.out.trans (aa.mono HW.out.size))
 clear aa
 have B5:=h! (Box.new w1 #[.slice ax a.params.length cx,.int .i64 a.arrays,.int .i64 a.cells,.slice bx a.blocks.length dx] 25)
 generalize w1.alloc (.cells #[.slice ax a.params.length cx,.int .i64 a.arrays,.int .i64 a.cells,.slice bx a.blocks.length dx] 25)=w2 at *
 obtain ⟨ad,af,ag⟩:=B2.out
 obtain ⟨ac,ah,ae⟩:=B3.out
 obtain ⟨ai,aj,ak⟩:=B5.out
 go_wp2_with fail
 refine (sN (HV.out.below HW.out)).mono ?_
 rintro e w3 ⟨b,h,v2,S2,bs,rfl,hO,hF,hb⟩
 obtain ⟨rfl,rfl⟩:=HP.out.one bs
 obtain ⟨ay,cy,dy,ey,rfl, -, -, -, -⟩:=hO.reads.form
 have HB:=h! (iV hO hF)
 clear bs hO hF
 clear ad af ag ac ah ae ai aj ak
 replace B2:=h! (B2.out.later hb)
 replace B3:=h! (B3.out.later hb)
 replace B5:=h! (B5.out.later hb)
 replace HA:=h! (HA.out.later hb)
 replace HW:=h! (HW.out.trans (hb.mono HW.out.size))
 clear hb
 obtain ⟨ad,af,ag⟩:=B2.out
 obtain ⟨ac,ah,ae⟩:=B3.out
 obtain ⟨ai,aj,ak⟩:=B5.out
 go_upto_region 3 with (fail)
 replace HA:=h! (HA.out.more (aB _))
 replace HB:=h! (HB.out.more (aB _))
 have an:w3.heap.size ≠ w.heap.size:=fun e=>by have:=ad;omega
 have nB2B7:w.heap.size ≠ w3.heap.size:=fun e=>an e.symm
 have aw:w3.heap.size ≠ w.heap.size+1:=fun e=>by have:=ac;omega
 have nB3B7:w.heap.size+1 ≠ w3.heap.size:=fun e=>aw e.symm
 have aq:w3.heap.size ≠ w1.heap.size:=fun e=>by have:=ai;omega
 have nB5B7:w1.heap.size ≠ w3.heap.size:=fun e=>aq e.symm
 clear ad af ag ac ah ae ai aj ak
 have aa:=(Below.refl w3.heap.size w3).alloc (aB _) (.cells #[.slice ay a.params.length cy,.int .i64 a.arrays,.int .i64 a.cells,.slice dy a.blocks.length ey] 25)
 replace B2:=h! (B2.out.later aa)
 replace B3:=h! (B3.out.later aa)
 replace B5:=h! (B5.out.later aa)
 replace HA:=h! (HA.out.later aa)
 replace HB:=h! (HB.out.later aa)
 replace HW:=h! (HW.out.trans (aa.mono HW.out.size))
 clear aa
 have B7:=h! (Box.new w3 #[.slice ay a.params.length cy,.int .i64 a.arrays,.int .i64 a.cells,.slice dy a.blocks.length ey] 25)
 generalize w3.alloc (.cells #[.slice ay a.params.length cy,.int .i64 a.arrays,.int .i64 a.cells,.slice dy a.blocks.length ey] 25)=w4 at *
 obtain ⟨ad,af,ag⟩:=B2.out
 obtain ⟨ac,ah,ae⟩:=B3.out
 obtain ⟨ai,aj,ak⟩:=B5.out
 obtain ⟨bp,br,bq⟩:=B7.out
 have bz:Hid (∀ W,Below w4.heap.size w4 W -> Calls Tryz.prog 13 #[] W fun e w'=>e = .returned (.bool true)/\Below W.heap.size W w'):=h! (fun W _=>aFI)
 have bv:Hid (∀ W,Below w4.heap.size w4 W -> Calls Tryz.prog 14 #[.agg #[.slice ax a.params.length cx,.int .i64 a.arrays,.int .i64 a.cells,.slice bx a.blocks.length dx],.agg #[.slice ay a.params.length cy,.int .i64 a.arrays,.int .i64 a.cells,.slice dy a.blocks.length ey]] W fun e w'=>e = .returned (.bool true)/\Below W.heap.size W w'):=h! (fun W hb=>(uS (HA.out.later hb).now.reads (HB.out.later hb).now.reads).mono fun e w' ⟨h1,h2⟩=>⟨by rw [h1,decide_eq_true rfl],h2⟩)
 have bt:Hid (∀ W,Below w4.heap.size w4 W -> Calls Tryz.prog 15 #[.agg #[.slice ap f.params.length cp,.int .i64 f.arrays,.int .i64 f.cells,.slice ab f.blocks.length cb],.agg #[.slice bb g.params.length az,.int .i64 g.arrays,.int .i64 g.cells,.slice ao g.blocks.length ar]] W fun e w'=>e = .returned (.bool r)/\Below W.heap.size W w'):=h! (fun W hb=>(zS (HV.out.below (HW.out.trans (hb.mono HW.out.size))) (HU.out.below (HW.out.trans (hb.mono HW.out.size)))).mono fun e w' ⟨r',h1,h2,h3⟩=>⟨by rw [h1,HR.out.one h2],h3⟩)
 have bw:Hid (∀ W,Below w4.heap.size w4 W -> Calls Tryz.prog 16 #[.agg #[.slice ap f.params.length cp,.int .i64 f.arrays,.int .i64 f.cells,.slice ab f.blocks.length cb],.agg #[.slice bb g.params.length az,.int .i64 g.arrays,.int .i64 g.cells,.slice ao g.blocks.length ar]] W fun e w'=>e = .returned (.bool r)/\Below W.heap.size W w'):=h! (fun W hb=>(aAB (fun W v f h=>sN h) (HV.out.below (HW.out.trans (hb.mono HW.out.size))) (HU.out.below (HW.out.trans (hb.mono HW.out.size)))).mono fun e w' ⟨r',h1,h2,h3⟩=>⟨by rw [h1,HR.out.one h2],h3⟩)
 have hkk:(k == k)=true:=by simp
 have hrr:(r == r)=true:=by simp
 refine wp_region_grow 21 (fun kz=>match kz with | 0=>.const (.bool true) | 9=>.const (.bool true) | 14=>.const (.bool r) | 17=>.const (.bool r) | _=>.plain) (by kernel_rfl) (by kernel_rfl) ?_ (fun ν => ?_)
 ·(intro k;(try dsimp only);split <;> first | exact True.intro | (intro u w1 w2 hu hb;exact hu.below hb))
 simp only [aO,aS,aP,aU]
 refine Grow.call (f := ?_) (args := ?_) rfl (fun wg => ?_) (fun wg hbg hdg => ?_) ?_
 rotate_left 2
 focus (first | (go_simp;done) | (go_simp;refine And.intro ?_ ?_ <;> with_reducible rfl) | (go_simp;with_reducible rfl))
 focus exact Calls.mono (bz.out wg hbg) (fun e w2 ⟨he,hb2⟩=>⟨_,he,rfl,hb2⟩)
 simp only [Act.put,Known.val,aA,aD,aE]
 iterate 8 (refine Grow.val (v := ?_) rfl rfl (fun wg hbg hdg => ?_) ?_;rotate_left;(focus ((obtain ⟨bg,bh,bf⟩:=B2.out.later hbg);(obtain ⟨bn,bk,bl⟩:=B3.out.later hbg);(obtain ⟨be,bi,bd⟩:=B5.out.later hbg);(obtain ⟨bm,bo,bj⟩:=B7.out.later hbg);clear hbg hdg;first | (go_simp;done) | (go_simp;with_reducible rfl)));simp only [Act.put,aA,aD,aE])
 refine Grow.call (f := ?_) (args := ?_) rfl (fun wg => ?_) (fun wg hbg hdg => ?_) ?_
 rotate_left 2
 focus (first | (go_simp;done) | (go_simp;refine And.intro ?_ ?_ <;> with_reducible rfl) | (go_simp;with_reducible rfl))
 focus exact Calls.mono (bv.out wg hbg) (fun e w2 ⟨he,hb2⟩=>⟨_,he,rfl,hb2⟩)
 simp only [Act.put,Known.val,aA,aD,aE]
 iterate 4 (refine Grow.val (v := ?_) rfl rfl (fun wg hbg hdg => ?_) ?_;rotate_left;(focus ((obtain ⟨bg,bh,bf⟩:=B2.out.later hbg);(obtain ⟨bn,bk,bl⟩:=B3.out.later hbg);(obtain ⟨be,bi,bd⟩:=B5.out.later hbg);(obtain ⟨bm,bo,bj⟩:=B7.out.later hbg);clear hbg hdg;first | (go_simp;done) | (go_simp;with_reducible rfl)));simp only [Act.put,aA,aD,aE])
 refine Grow.call (f := ?_) (args := ?_) rfl (fun wg => ?_) (fun wg hbg hdg => ?_) ?_
 rotate_left 2
 focus (first | (go_simp;done) | (go_simp;refine And.intro ?_ ?_ <;> with_reducible rfl) | (go_simp;with_reducible rfl))
 focus exact Calls.mono (bt.out wg hbg) (fun e w2 ⟨he,hb2⟩=>⟨_,he,rfl,hb2⟩)
 simp only [Act.put,Known.val,aA,aD,aE]
 iterate 2 (refine Grow.val (v := ?_) rfl rfl (fun wg hbg hdg => ?_) ?_;rotate_left;(focus ((obtain ⟨bg,bh,bf⟩:=B2.out.later hbg);(obtain ⟨bn,bk,bl⟩:=B3.out.later hbg);(obtain ⟨be,bi,bd⟩:=B5.out.later hbg);(obtain ⟨bm,bo,bj⟩:=B7.out.later hbg);clear hbg hdg;first | (go_simp;done) | (go_simp;with_reducible rfl)));simp only [Act.put,aA,aD,aE])
 refine Grow.call (f := ?_) (args := ?_) rfl (fun wg => ?_) (fun wg hbg hdg => ?_) ?_
 rotate_left 2
 focus (first | (go_simp;done) | (go_simp;refine And.intro ?_ ?_ <;> with_reducible rfl) | (go_simp;with_reducible rfl))
 focus exact Calls.mono (bw.out wg hbg) (fun e w2 ⟨he,hb2⟩=>⟨_,he,rfl,hb2⟩)
 simp only [Act.put,Known.val,aA,aD,aE]
 iterate 3 (refine Grow.val (v := ?_) rfl rfl (fun wg hbg hdg => ?_) ?_;rotate_left;(focus ((obtain ⟨bg,bh,bf⟩:=B2.out.later hbg);(obtain ⟨bn,bk,bl⟩:=B3.out.later hbg);(obtain ⟨be,bi,bd⟩:=B5.out.later hbg);(obtain ⟨bm,bo,bj⟩:=B7.out.later hbg);clear hbg hdg;first | (go_simp;done) | (go_simp;with_reducible rfl)));simp only [Act.put,aA,aD,aE])
 intro wg hb hf bO
 clear bO
 clear ad af ag ac ah ae ai aj ak bp br bq
 replace B2:=h! (B2.out.later hb)
 replace B3:=h! (B3.out.later hb)
 replace B5:=h! (B5.out.later hb)
 replace B7:=h! (B7.out.later hb)
 replace HA:=h! (HA.out.later hb)
 replace HB:=h! (HB.out.later hb)
 replace HW:=h! (HW.out.trans (hb.mono HW.out.size))
 clear hb
 obtain ⟨ad,af,ag⟩:=B2.out
 obtain ⟨ac,ah,ae⟩:=B3.out
 obtain ⟨ai,aj,ak⟩:=B5.out
 obtain ⟨bp,br,bq⟩:=B7.out
 clear hf
 go_wp2
 go_ret
 exact ⟨rfl,HW.out⟩
end
end Go.Proofs.YtagabiidbbhhmaaGreat
