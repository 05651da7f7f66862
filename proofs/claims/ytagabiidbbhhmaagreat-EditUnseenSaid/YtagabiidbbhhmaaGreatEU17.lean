/- Part 17. -/
import Derived.Test.YtagabiidbbhhmaaGreatEU16
namespace Go.Proofs.YtagabiidbbhhmaaGreat
set_option linter.all false
open Go.RowKit
theorem aC6:Elem Tryz.prog 37 40 (.agg #[.int .i64 0,.int .i64 0,.int .i64 0,.int .i64 0,.int .i64 0]) 5 40:=mG Tryz.underlying37 (by kernel_rfl) rfl (by omega)
def aGO (T:List UseD) (w:World) (e:Ending) (w' : World):Prop := ∃ u,e = .returned u/\w'.ownsRow w.heap.size 40 5 u T.length (iY T)/\Below w.heap.size w w'
theorem New.box {T:TypeId} {w w' : World} {u:Value} {xs:List Int} (h:New T w w' u xs) (hp:0 < xs.length):∃ g cap A,u = .slice (some ⟨g,0,none⟩) xs.length cap/\w.heap.size <= g/\Box w' g A /\ ∀ j,j < xs.length -> A[j]? = some (.int .i64 (xs.getD j 0)):=by
 rcases h.own.2 with ⟨_,h2⟩ | ⟨g,cap,aa,hv,hb,hh,h1,h2,h3,h4⟩
 ·omega
 refine ⟨g,cap,aa,hv,hb,⟨(aM.1 hh).1,fun o => ?_,fun o => ?_⟩,fun j hj => ?_⟩
 ·simp only [World.cell?,hh];simp
 ·simp only [World.frozen?,hh];simp
 have e:=congrArg (fun l=>l[j]?) h4
 simp only [aO,fI xs j hj,cP] at e
 rw [aW] at e
 split at e
 ·simpa using e
 cases e
set_option maxHeartbeats 12800000 in
set_option maxRecDepth 100000 in
theorem aBO {w:World} {v:Value} {f:FuncD} (hv:fP w v f) (he:Even f):Calls Tryz.prog 21 #[v] w (aGO (uxF f) w):=by
 obtain ⟨ap,cp,ab,cb,rfl,hp,ha,hc,hB⟩:=hv.form
 obtain ⟨a2,c2,bb,bo,gs,gb,hbm,gj,eo,fo⟩:=eW hB
 cases gs
 have ey:=zJ he
 have fw:Hid (∀ j x,f.blocks[j]? = some x -> ((f.blocks.zipIdx.take j).flatMap uxB).length+(x.phis.flatMap (uxP j)).length+(x.code.zipIdx.flatMap (uxI j)).length+(uxT j x).length <= 2097152):=h! (fun j x hj=>by
  have h1:=iT uxB f.blocks.zipIdx (j+1)
  rw [gM uxB _ _ (x,j) (by simp [cQ,hj]),aI] at h1
  have h2:(uxB (x,j)).length=(x.phis.flatMap (uxP j)).length+(x.code.zipIdx.flatMap (uxI j)).length+(uxT j x).length:=by unfold uxB;rw [aI,aI]
  have h3:(uxF f).length=(f.blocks.zipIdx.flatMap uxB).length:=rfl
  omega)
 have fh:Hid (Even f):=h! he
 have gd:Hid (uxF f=f.blocks.zipIdx.flatMap uxB):=h! rfl
 obtain ⟨np,fi⟩ : ∃ np,np=f.params.length:=⟨_,rfl⟩
 obtain ⟨nb,ej⟩ : ∃ nb,nb=f.blocks.length:=⟨_,rfl⟩
 rw [<-fi]
 rw [<-ej] at gb eo gj ⊢
 have fm:=h! ej
 have fM:=h! eo
 have fy:=h! fo
 clear hp ha hc hB hv eo fo fi ej he ey
 generalize f.arrays=ar at *
 generalize f.cells=ce at *
 go_enter Tryz.func21,Tryz.ntmps21
 go_upto_region 1 with (fail)
 have br:=(Below.refl w.heap.size w).alloc (aC _) (.cells #[.slice ap np cp,.int .i64 ar,.int .i64 ce,.slice ab nb cb] 25)
 have HW:=h! br
 clear br
 have B1:=h! (Box.new w #[.slice ap np cp,.int .i64 ar,.int .i64 ce,.slice ab nb cb] 25)
 generalize w.alloc (.cells #[.slice ap np cp,.int .i64 ar,.int .i64 ce,.slice ab nb cb] 25)=wv at *
 obtain ⟨ad,ag,ah⟩:=B1.out
 go_wp2_with fail
 have HO:Hid (Own (wv.alloc (.cells #[] 40)) w.heap.size [w.heap.size] 40 5 (.slice (some ⟨wv.heap.size,0,none⟩) 0 0) 0 []):=h! (lV HW.out.size (by intro b hb;simp at hb;omega) 5)
 have ec:=(Below.refl wv.heap.size wv).alloc (aC _) (.cells #[] 40)
 clear ad ag ah
 replace B1:=h! (B1.out.later ec)
 replace HW:=h! (HW.out.trans (ec.mono HW.out.size))
 clear ec
 obtain ⟨ad,ag,ah⟩:=B1.out
 generalize wv.alloc _=wa at *
 go_loopw [3,4] (fun u i wr => ∃ j:Nat,j <= nb/\i = .int .i64 j/\Own wr w.heap.size [w.heap.size] 40 5 u ((f.blocks.zipIdx.take j).flatMap uxB).length (iY ((f.blocks.zipIdx.take j).flatMap uxB))/\Below w.heap.size w wr/\Box wr w.heap.size #[.slice ap np cp,.int .i64 ar,.int .i64 ce,.slice ab nb cb]) (fun _ i _=>nb - (intOf i).toNat)
 case atStart=>exact ⟨0,aH _,rfl,HO.out,HW.out,B1.out⟩
 obtain ⟨j,hj,rfl,hO,hW,aq⟩:=hrel
 clear ad ag ah
 obtain ⟨L,hL⟩ : ∃ L,L=(f.blocks.zipIdx.take j).flatMap uxB:=⟨_,rfl⟩
 rw [<-hL] at hO
 obtain ⟨oa,oc,rfl⟩:=hO.form
 replace HO:=h! hO
 replace HW:=h! hW
 replace B1:=h! aq
 have HL:=h! hL
 clear hO hW aq hL
 generalize wr=wb at *
 obtain ⟨ad,ag,ah⟩:=B1.out
 by_cases hltb:j < nb
 ·obtain ⟨rfl,fv⟩:=fM.out (by omega)
  obtain ⟨x,da⟩ : ∃ x,f.blocks[j]? = some x:=⟨_,aB (by have:=fm.out;omega)⟩
  obtain ⟨ck,co,cd,bx,cg,bt,hC⟩:=fy.out j x da
  have ep:=fw.out j x da
  have gh:=h! (gM uxB f.blocks.zipIdx j (x,j) (by simp [cQ,da]))
  have fa:=h! (aG da)
  have cM:=hC.phis
  have cq:=hC.code
  obtain ⟨k0,k1,k2,k3,k4,k5,q1,q2,q3,q4,q5,q6⟩:=hC.below HW.out fv
  clear q1 q2 q3 q4 q5 q6 hC da
  rw [<-HL.out] at ep
  obtain ⟨pl,dx⟩ : ∃ pl,pl=x.phis.length:=⟨_,rfl⟩
  obtain ⟨cl,ds⟩ : ∃ cl,cl=x.code.length:=⟨_,rfl⟩
  obtain ⟨ac,capc,ga,gi,dc,fs,hcm,cL,ev,ff⟩:=fS cq
  obtain ⟨apx,capp,dg,df,cr,es,hppm,de,bw,cB⟩:=fH cM
  rw [<-dx] at cr es de bw k0
  rw [<-ds] at dc fs cL ev k1
  cases cr
  cases dc
  have fj:=h! dx
  have ex:=h! ds
  have dv:=h! bw
  have eh:=h! cB
  have dw:=h! ev
  have dy:=h! ff
  clear dx ds bw cB ev ff cM cq
  have bk:=h! ep
  clear ep
  replace HO:=h! (HO.out.more (b:=wb.heap.size) (aC _))
  go_upto_region 6 with (fail)
  have cy:wb.heap.size ≠ w.heap.size:=fun e=>by have:=ad;omega
  have nB1B5:w.heap.size ≠ wb.heap.size:=fun e=>cy e.symm
  clear ad ag ah
  have br:=(Below.refl wb.heap.size wb).alloc (aC _) (.cells #[.slice ck pl bx,.slice co cl cg,.int .i64 x.term.op,.int .i64 x.term.val,.slice cd x.term.to.length bt,.int .i64 x.term.n] 63)
  replace B1:=h! (B1.out.later br)
  replace HO:=h! (HO.out.later br)
  replace HW:=h! (HW.out.trans (br.mono HW.out.size))
  clear br
  have B5:=h! (Box.new wb #[.slice ck pl bx,.slice co cl cg,.int .i64 x.term.op,.int .i64 x.term.val,.slice cd x.term.to.length bt,.int .i64 x.term.n] 63)
  generalize wb.alloc (.cells #[.slice ck pl bx,.slice co cl cg,.int .i64 x.term.op,.int .i64 x.term.val,.slice cd x.term.to.length bt,.int .i64 x.term.n] 63)=w6 at *
  obtain ⟨ad,ag,ah⟩:=B1.out
  obtain ⟨ai,aj,ak⟩:=B5.out
  clear k0 k1 k2 k3 k4 k5
  go_wp2_with fail
  go_loopw [3,6] (fun u i wr => ∃ k:Nat,k <= pl/\i = .int .i64 k/\Own wr w.heap.size [wb.heap.size,w.heap.size] 40 5 u (L ++ (x.phis.take k).flatMap (uxP j)).length (iY (L ++ (x.phis.take k).flatMap (uxP j)))/\Below w.heap.size w wr/\Box wr w.heap.size #[.slice ap np cp,.int .i64 ar,.int .i64 ce,.slice (some ⟨bb,bo,none⟩) nb cb]/\Box wr wb.heap.size #[.slice ck pl bx,.slice co cl cg,.int .i64 x.term.op,.int .i64 x.term.val,.slice cd x.term.to.length bt,.int .i64 x.term.n]) (fun _ i _=>pl - (intOf i).toNat)
  case atStart=>exact ⟨0,aH _,rfl,by simp only [aU,List.flatMap_nil,bY];exact HO.out,HW.out,B1.out,B5.out⟩
  obtain ⟨k,hk,rfl,hO,hW,aq,az⟩:=hrel
  clear ad ag ah ai aj ak
  obtain ⟨L1,dq⟩ : ∃ L1,L1=L ++ (x.phis.take k).flatMap (uxP j):=⟨_,rfl⟩
  rw [<-dq] at hO
  obtain ⟨oa1,oc1,rfl⟩:=hO.form
  replace HO:=h! hO
  replace HW:=h! hW
  replace B1:=h! aq
  replace B5:=h! az
  have cj:=h! dq
  clear hO hW aq az dq
  generalize wr=w7 at *
  obtain ⟨ad,ag,ah⟩:=B1.out
  obtain ⟨ai,aj,ak⟩:=B5.out
  by_cases hlt:k < pl
  ·obtain ⟨rfl,ci⟩:=dv.out (by omega)
   obtain ⟨p,dj⟩ : ∃ p,x.phis[k]? = some p:=⟨_,aB (by have:=fj.out;omega)⟩
   obtain ⟨af,av,cf,cv,hP⟩:=eh.out k p dj
   have cF:=h! (gM (uxP j) x.phis k p dj)
   have bm:=fh.out.phi x fa.out p (aG dj)
   have an:L1.length+(uxP j p).length <= 2097152:=by
    have h1:=bk.out
    have h2:=iT (uxP j) x.phis (k+1)
    rw [cF.out,aI] at h2
    rw [cj.out,aI]
    omega
   obtain ⟨vl,dm⟩ : ∃ vl,vl=p.vals.length:=⟨_,rfl⟩
   have bn:(uxP j p).length=vl:=by unfold uxP;rw [bI,eB];omega
   rw [bn] at an
   obtain ⟨ft,fF,bv,ov,ed,dz,gn,bp,bO⟩:=hP.vals.parts
   obtain ⟨as',cs',bs,os,fG,fc,hsm',bj,dl⟩:=hP.src.parts
   cases ed
   cases fG
   have HP:=h! hP
   rw [bm.1] at fc bj dl
   rw [<-dm] at dz bp bO fc bj dl
   have dn:=h! dm
   have bz:Hid (p.src.length=vl):=h! (by rw [bm.1,dm])
   have em:=h! bp
   have en:=h! bO
   have fB:=h! bj
   have gm:=h! dl
   have hv512:vl <= 512:=by omega
   obtain ⟨nL,cc⟩ : ∃ nL,nL=L1.length:=⟨_,rfl⟩
   rw [<-cc] at an HO ⊢
   have bh:=h! cc
   have ch:=h! bn
   clear hP dj cc bm dm bp bO bj dl bn
   go_wp2_with fail
   go_loopw [3,7] (fun u i wr => ∃ q:Nat,q <= vl/\i = .int .i64 q/\Own wr w.heap.size [wb.heap.size,w.heap.size] 40 5 u (nL+q) (iY (L1 ++ (uxP j p).take q))/\Below w.heap.size w wr/\Box wr w.heap.size #[.slice ap np cp,.int .i64 ar,.int .i64 ce,.slice (some ⟨bb,bo,none⟩) nb cb]/\Box wr wb.heap.size #[.slice (some ⟨dg,df,none⟩) pl bx,.slice co cl cg,.int .i64 x.term.op,.int .i64 x.term.val,.slice cd x.term.to.length bt,.int .i64 x.term.n]) (fun _ i _=>vl - (intOf i).toNat)
   case atStart=>exact ⟨0,aH _,rfl,by simp only [aU,bY];exact HO.out,HW.out,B1.out,B5.out⟩
   obtain ⟨q,hq,rfl,hO,hW,aq,az⟩:=hrel
   clear ad ag ah ai aj ak
   obtain ⟨fb,fe,rfl⟩:=hO.form
   replace HO:=h! hO
   replace HW:=h! hW
   replace B1:=h! aq
   replace B5:=h! az
   clear hO hW aq az
   generalize wr=w9 at *
   obtain ⟨ad,ag,ah⟩:=B1.out
   obtain ⟨ai,aj,ak⟩:=B5.out
   obtain ⟨m0,m1,m2,m3,r1,r2,r3,r4⟩:=HP.out.below HW.out ci
   rw [bz.out] at m2
   rw [<-dn.out] at m3
   clear r1 r2 r3 r4
   by_cases hltq:q < vl
   ·obtain ⟨rfl,cx⟩:=em.out (by omega)
    obtain ⟨rfl,fd⟩:=fB.out (by omega)
    have cw:=h! (en.out q hltq)
    have ez:=h! (gm.out q hltq)
    have ei:=h! (eS (uxP j p) q ⟨p.vals.getD q 0,p.typ,j, -1,p.src.getD q 0⟩ (by
     unfold uxP
     rw [aO,(cX (z:=(p.vals.getD q 0,p.src.getD q 0))).2 ⟨fI p.vals q (by have:=dn.out;omega),fI p.src q (by have:=bz.out;omega)⟩]
     rfl))
    have fl:Hid (∀ W,Below w9.heap.size w9 W -> W.cell? ⟨dg,df+k * 4+1,none⟩=some (.int .i64 p.typ)/\W.cell? ⟨dg,df+k * 4+2,none⟩=some (.slice (some ⟨bs,os,none⟩) vl cf)/\W.cell? ⟨dg,df+k * 4+3,none⟩=some (.slice (some ⟨bv,ov,none⟩) vl cv)):=h! (fun W hb=>by
     have gv:=HW.out.trans (hb.mono HW.out.size)
     obtain ⟨z0,z1,z2,z3,_,_,_,_⟩:=HP.out.below gv ci
     rw [bz.out] at z2
     rw [<-dn.out] at z3
     exact ⟨z1,z2,z3⟩)
    generalize p.vals.getD q 0=va at *
    generalize p.src.getD q 0=sa at *
    go_upto_region 12 with (fail)
    clear m0 m1 m2 m3
    refine wp_region_grow 28 (fun kz=>match kz with | 27=>.made w9.heap.size (fun b=>.slice (some ⟨b,0,none⟩) 1 1) #[.int .i64 va,.int .i64 p.typ,.int .i64 j,.int .i64 (-1),.int .i64 sa] | _=>.plain) (by kernel_rfl) (by kernel_rfl) ?_ (fun ν => ?_)
    ·(intro k;(try dsimp only);split <;> first | exact True.intro | (intro u w1 w2 hu hb;exact hu.below hb))
    simp only [aP,aU,aS,aX]
    iterate 27 (refine Grow.val (v := ?_) rfl rfl (fun wg hbg hdg => ?_) ?_;rotate_left;(focus ((obtain ⟨ee,ek,ef⟩:=B1.out.later hbg);(obtain ⟨er,dt,ea⟩:=B5.out.later hbg);(obtain ⟨m1,m2,m3⟩:=fl.out wg hbg);(have eg:=((HW.out.trans (hbg.mono HW.out.size)).cell cx).trans cw.out);(have gr:=((HW.out.trans (hbg.mono HW.out.size)).cell fd).trans ez.out);clear hbg hdg;first | (go_simp;done) | (go_simp;with_reducible rfl)));simp only [Act.put,aA,aE,aF])
    refine Grow.made (T := ?_) rfl rfl (fun wg hbg hdg => ?_) ?_
    rotate_left
    focus ((obtain ⟨ee,ek,ef⟩:=B1.out.later hbg);(obtain ⟨er,dt,ea⟩:=B5.out.later hbg);(obtain ⟨m1,m2,m3⟩:=fl.out wg hbg);(have eg:=((HW.out.trans (hbg.mono HW.out.size)).cell cx).trans cw.out);(have gr:=((HW.out.trans (hbg.mono HW.out.size)).cell fd).trans ez.out);clear hbg hdg;first | (go_simp;done) | (go_simp;with_reducible rfl))
    simp only [Act.put,Known.val,aA,aE,aF]
    intro wg hb hf dr
    obtain ⟨aw,bc,bf,ax⟩:=hf 27 (by omega)
    have ba:aw ≠ w.heap.size:=fun e=>by have:=ad;omega
    have cG:w.heap.size ≠ aw:=fun e=>ba e.symm
    have be:aw ≠ wb.heap.size:=fun e=>by have:=ai;omega
    have cz:wb.heap.size ≠ aw:=fun e=>be e.symm
    simp only [bc]
    clear bc
    clear dr
    have gc:=bA HW.out.size bf
    clear bf
    clear ad ag ah ai aj ak
    replace B1:=h! (B1.out.later hb)
    replace B5:=h! (B5.out.later hb)
    replace HO:=h! (HO.out.later hb)
    replace HW:=h! (HW.out.trans (hb.mono HW.out.size))
    clear hb
    have BN:=h! ax
    clear ax
    obtain ⟨ad,ag,ah⟩:=B1.out
    obtain ⟨ai,aj,ak⟩:=B5.out
    obtain ⟨bl,ew,et⟩:=BN.out
    clear hf
    clear ad ag ah ai aj ak bl ew et
    have bl:=BN.out.lt
    have ad:=B1.out.lt
    have ai:=B5.out.lt
    refine gJ rfl _ _ 37 40 rfl aC6 rfl rfl HO.out (Row.of_box (n:=1) (size:=5) BN.out rfl (by omega)) (by simp [Value.oneCell']) (by unfold maxLen;omega) (by omega) (by have:=HW.out.size;omega) (by intro b hb;simp at hb ⊢;omega) ?_
    intro v2 w2 ay ae bd
    clear bl
    clear ad
    clear ai
    replace B1:=h! (ae _ _ (by simp) B1.out)
    replace B5:=h! (ae _ _ (by simp) B5.out)
    replace HO:=h! ay
    replace HW:=h! (HW.out.trans bd)
    clear ay ae bd BN
    obtain ⟨ad,ag,ah⟩:=B1.out
    obtain ⟨ai,aj,ak⟩:=B5.out
    go_wp2
    go_roundw
    case rel=>exact ⟨q+1,hltq,by go_num,by rw [ei.out, <-List.append_assoc,kQ];exact HO.out,HW.out,B1.out,B5.out⟩
    simp [intOf];omega
   obtain rfl:q=vl:=by omega
   rw [aJ (by rw [ch.out];omega)] at HO
   have HQ:Hid (L ++ (x.phis.take (k+1)).flatMap (uxP j)=L1 ++ uxP j p):=h! (by rw [cF.out, <-List.append_assoc, <-cj.out])
   go_wp2
   go_roundw
   case rel=>exact ⟨k+1,hlt,by go_num,by rw [HQ.out,aI, <-bh.out,ch.out];exact HO.out,HW.out,B1.out,B5.out⟩
   simp [intOf];omega
  obtain rfl:k=pl:=by omega
  rw [aJ (by have:=fj.out;omega)] at cj
  go_wp2_with fail
  go_loopw [3,8] (fun u i wr => ∃ q:Nat,q <= cl/\i = .int .i64 q/\Own wr w.heap.size [wb.heap.size,w.heap.size] 40 5 u (L1 ++ (x.code.zipIdx.take q).flatMap (uxI j)).length (iY (L1 ++ (x.code.zipIdx.take q).flatMap (uxI j)))/\Below w.heap.size w wr/\Box wr w.heap.size #[.slice ap np cp,.int .i64 ar,.int .i64 ce,.slice (some ⟨bb,bo,none⟩) nb cb]/\Box wr wb.heap.size #[.slice ck k bx,.slice co cl cg,.int .i64 x.term.op,.int .i64 x.term.val,.slice cd x.term.to.length bt,.int .i64 x.term.n]) (fun _ i _=>cl - (intOf i).toNat)
  case atStart=>exact ⟨0,aH _,rfl,by simp only [aU,List.flatMap_nil,bY];exact HO.out,HW.out,B1.out,B5.out⟩
  obtain ⟨q,hq,rfl,hO,hW,aq,az⟩:=hrel
  clear ad ag ah ai aj ak
  obtain ⟨L2,eb⟩ : ∃ L2,L2=L1 ++ (x.code.zipIdx.take q).flatMap (uxI j):=⟨_,rfl⟩
  rw [<-eb] at hO
  obtain ⟨fb,fe,rfl⟩:=hO.form
  replace HO:=h! hO
  replace HW:=h! hW
  replace B1:=h! aq
  replace B5:=h! az
  have cs:=h! eb
  clear hO hW aq az eb
  generalize wr=w9 at *
  obtain ⟨ad,ag,ah⟩:=B1.out
  obtain ⟨ai,aj,ak⟩:=B5.out
  obtain ⟨nL,cc⟩ : ∃ nL,nL=L2.length:=⟨_,rfl⟩
  rw [<-cc] at HO ⊢
  have bh:=h! cc
  clear cc
  by_cases hltq:q < cl
  ·obtain ⟨rfl,ci⟩:=dw.out (by omega)
   obtain ⟨y,dh⟩ : ∃ y,x.code[q]? = some y:=⟨_,aB (by have:=ex.out;omega)⟩
   obtain ⟨aa,ca,hP⟩:=dy.out q y dh
   have db:=h! (gM (uxI j) x.code.zipIdx q (y,q) (by simp [cQ,dh]))
   have bm:=fh.out.args x fa.out y (aG dh)
   have HQ:Hid (L1 ++ (x.code.zipIdx.take (q+1)).flatMap (uxI j)=L2 ++ uxI j (y,q)):=h! (by rw [db.out, <-List.append_assoc, <-cs.out])
   have an:nL+(uxI j (y,q)).length <= 2097152:=by
    have h1:=bk.out
    have h2:=iT (uxI j) x.code.zipIdx (q+1)
    rw [db.out,aI] at h2
    rw [bh.out,cs.out,aI,cj.out,aI]
    omega
   obtain ⟨al,dk⟩ : ∃ al,al=y.args.length:=⟨_,rfl⟩
   rw [<-dk] at bm
   have bn:(uxI j (y,q)).length=al:=by unfold uxI;rw [bI,eB];simp only;omega
   rw [bn] at an
   obtain ⟨ft,fF,bv,ov,ed,dz,gn,bp,bO⟩:=hP.args.parts
   cases ed
   rw [<-dk] at dz bp bO
   have HP:=h! hP
   have dp:=h! dk
   have em:=h! bp
   have en:=h! bO
   have bg:=h! bm
   have ch:=h! bn
   clear hP dh dk bp bO bm bn
   obtain ⟨m0,m1,m2,m3,r1,r2,r3,r4⟩:=HP.out.below HW.out ci
   clear r1 r2 r3 r4
   go_wp2_with fail
   clear m0 m1 m2 m3
   refine (aDG y.op).mono ?_
   rintro e fz ⟨u,rfl,hu,am⟩
   obtain ⟨sargs,bj⟩ : ∃ sargs,sargs=(shp0 y.op).args:=⟨_,rfl⟩
   have fq:Hid (uxI j (y,q)=(y.args.zip sargs).map fun at_=>⟨at_.1,at_.2,j,q,0⟩):=h! (by rw [bj];rfl)
   rw [<-bj] at hu bg
   have bq:=HO.out
   clear bj
   by_cases hs0:al=0
   ·have gp:∃ ua uc,u = .slice ua 0 uc:=by
     obtain ⟨ua,uc,h⟩:=hu.ints.form
     have h2:=bg.out
     exact ⟨ua,uc,by rw [h];congr 1;omega⟩
    obtain ⟨ua,uc,rfl⟩:=gp
    have fL:=h! hs0
    clear hu hs0 bq
    clear ad ag ah ai aj ak
    replace B1:=h! (B1.out.later am)
    replace B5:=h! (B5.out.later am)
    replace HO:=h! (HO.out.later am)
    replace HW:=h! (HW.out.trans (am.mono HW.out.size))
    clear am
    obtain ⟨ad,ag,ah⟩:=B1.out
    obtain ⟨ai,aj,ak⟩:=B5.out
    go_wp2_with fail
    go_loopw [3,12] (fun u i wr=>u = .slice fb nL fe/\i = .int .i64 0/\wr=fz) (fun _ _ _=>0)
    case atStart=>exact ⟨rfl,rfl,rfl⟩
    case round =>
     obtain ⟨rfl,rfl,rfl⟩:=hrel
     go_wp2
     go_roundw
     case rel=>exact ⟨q+1,hltq,by go_num,by rw [HQ.out,aI, <-bh.out,show uxI j (y,q)=[] by (rw [<-List.length_eq_zero_iff,ch.out];exact fL.out),bY];exact HO.out,HW.out,B1.out,B5.out⟩
     simp [intOf];omega
   obtain ⟨g,cap,A,rfl,hg,dd,fk⟩:=hu.box (by have:=bg.out;omega)
   replace HO:=h! (bq.more (b:=g) hg)
   have bz:Hid (sargs.length=al):=h! bg.out.symm
   rw [bz.out]
   have BT:=h! dd
   have fx:=h! fk
   have n1:g ≠ wb.heap.size:=fun e=>by omega
   have n2:g ≠ w.heap.size:=fun e=>by omega
   have n3:wb.heap.size ≠ g:=fun e=>n1 e.symm
   have n4:w.heap.size ≠ g:=fun e=>n2 e.symm
   have halp:0 < al:=by omega
   clear hu hs0 bq dd fk
   clear ad ag ah ai aj ak
   replace B1:=h! (B1.out.later am)
   replace B5:=h! (B5.out.later am)
   replace HO:=h! (HO.out.later am)
   replace HW:=h! (HW.out.trans (am.mono HW.out.size))
   clear am
   obtain ⟨ad,ag,ah⟩:=B1.out
   obtain ⟨ai,aj,ak⟩:=B5.out
   clear ad ag ah ai aj ak
   obtain ⟨ad,ag,ah⟩:=B1.out
   obtain ⟨ai,aj,ak⟩:=B5.out
   obtain ⟨bi,cm,cn⟩:=BT.out
   go_wp2_with fail
   go_loopw [3,12] (fun u i wr => ∃ q2:Nat,q2 <= al/\i = .int .i64 q2/\Own wr w.heap.size [g,wb.heap.size,w.heap.size] 40 5 u (nL+q2) (iY (L2 ++ (uxI j (y,q)).take q2))/\Below w.heap.size w wr/\Box wr w.heap.size #[.slice ap np cp,.int .i64 ar,.int .i64 ce,.slice (some ⟨bb,bo,none⟩) nb cb]/\Box wr wb.heap.size #[.slice ck k bx,.slice (some ⟨ga,gi,none⟩) cl cg,.int .i64 x.term.op,.int .i64 x.term.val,.slice cd x.term.to.length bt,.int .i64 x.term.n]/\Box wr g A) (fun _ i _=>al - (intOf i).toNat)
   case atStart=>exact ⟨0,aH _,rfl,by simp only [aU,bY];exact HO.out,HW.out,B1.out,B5.out,BT.out⟩
   obtain ⟨q2,hq2,rfl,hO,hW,aq,az,fp⟩:=hrel
   clear ad ag ah ai aj ak bi cm cn
   obtain ⟨oa3,oc3,rfl⟩:=hO.form
   replace HO:=h! hO
   replace HW:=h! hW
   replace B1:=h! aq
   replace B5:=h! az
   replace BT:=h! fp
   clear hO hW aq az fp
   generalize wr=gg at *
   obtain ⟨ad,ag,ah⟩:=B1.out
   obtain ⟨ai,aj,ak⟩:=B5.out
   obtain ⟨bi,cm,cn⟩:=BT.out
   by_cases hlt2:q2 < al
   ·obtain ⟨rfl,cx⟩:=em.out (by omega)
    have cw:=h! (en.out q2 hlt2)
    have fg:=h! (fx.out q2 (by have:=bz.out;omega))
    have ei:=h! (eS (uxI j (y,q)) q2 ⟨y.args.getD q2 0,sargs.getD q2 0,j,q,0⟩ (by
     rw [fq.out,aO,(cX (z:=(y.args.getD q2 0,sargs.getD q2 0))).2 ⟨fI y.args q2 (by have:=dp.out;omega),fI sargs q2 (by have:=bz.out;omega)⟩]
     rfl))
    generalize y.args.getD q2 0=va at *
    generalize sargs.getD q2 0=ta at *
    go_upto_region 20 with (fail)
    refine wp_region_grow 18 (fun kz=>match kz with | 17=>.made gg.heap.size (fun b=>.slice (some ⟨b,0,none⟩) 1 1) #[.int .i64 va,.int .i64 ta,.int .i64 j,.int .i64 q,.int .i64 0] | _=>.plain) (by kernel_rfl) (by kernel_rfl) ?_ (fun ν => ?_)
    ·(intro k;(try dsimp only);split <;> first | exact True.intro | (intro u w1 w2 hu hb;exact hu.below hb))
    simp only [aP,aU,aS,aX]
    iterate 17 (refine Grow.val (v := ?_) rfl rfl (fun wg hbg hdg => ?_) ?_;rotate_left;(focus ((obtain ⟨ee,ek,ef⟩:=B1.out.later hbg);(obtain ⟨er,dt,ea⟩:=B5.out.later hbg);(obtain ⟨gl,gk,gq⟩:=BT.out.later hbg);(obtain ⟨m0,m1,m2,m3,r1,r2,r3,r4⟩:=HP.out.below (HW.out.trans (hbg.mono HW.out.size)) ci);(rw [<-dp.out] at m2;clear r1 r2 r3 r4);(have eg:=((HW.out.trans (hbg.mono HW.out.size)).cell cx).trans cw.out);(have gf:=fg.out);clear hbg hdg;first | (go_simp;done) | (go_simp;with_reducible rfl)));simp only [Act.put,aA,aE,aF])
    refine Grow.made (T := ?_) rfl rfl (fun wg hbg hdg => ?_) ?_
    rotate_left
    focus ((obtain ⟨ee,ek,ef⟩:=B1.out.later hbg);(obtain ⟨er,dt,ea⟩:=B5.out.later hbg);(obtain ⟨gl,gk,gq⟩:=BT.out.later hbg);(obtain ⟨m0,m1,m2,m3,r1,r2,r3,r4⟩:=HP.out.below (HW.out.trans (hbg.mono HW.out.size)) ci);(rw [<-dp.out] at m2;clear r1 r2 r3 r4);(have eg:=((HW.out.trans (hbg.mono HW.out.size)).cell cx).trans cw.out);(have gf:=fg.out);clear hbg hdg;first | (go_simp;done) | (go_simp;with_reducible rfl))
    simp only [Act.put,Known.val,aA,aE,aF]
    intro wg hb hf dr
    obtain ⟨aw,bc,bf,ax⟩:=hf 17 (by omega)
    have ba:aw ≠ w.heap.size:=fun e=>by have:=ad;omega
    have cG:w.heap.size ≠ aw:=fun e=>ba e.symm
    have be:aw ≠ wb.heap.size:=fun e=>by have:=ai;omega
    have cz:wb.heap.size ≠ aw:=fun e=>be e.symm
    have ct:aw ≠ g:=fun e=>by have:=bi;omega
    have nBTBN:g ≠ aw:=fun e=>ct e.symm
    simp only [bc]
    clear bc
    clear dr
    have gc:=bA HW.out.size bf
    clear bf
    clear ad ag ah ai aj ak bi cm cn
    replace B1:=h! (B1.out.later hb)
    replace B5:=h! (B5.out.later hb)
    replace BT:=h! (BT.out.later hb)
    replace HO:=h! (HO.out.later hb)
    replace HW:=h! (HW.out.trans (hb.mono HW.out.size))
    clear hb
    have BN:=h! ax
    clear ax
    obtain ⟨ad,ag,ah⟩:=B1.out
    obtain ⟨ai,aj,ak⟩:=B5.out
    obtain ⟨bi,cm,cn⟩:=BT.out
    obtain ⟨bl,ew,et⟩:=BN.out
    clear hf
    clear ad ag ah ai aj ak bi cm cn bl ew et
    have bl:=BN.out.lt
    have ad:=B1.out.lt
    have ai:=B5.out.lt
    have bi:=BT.out.lt
    refine gJ rfl _ _ 37 40 rfl aC6 rfl rfl HO.out (Row.of_box (n:=1) (size:=5) BN.out rfl (by omega)) (by simp [Value.oneCell']) (by unfold maxLen;omega) (by omega) (by have:=HW.out.size;omega) (by intro b hb;simp at hb ⊢;omega) ?_
    intro v2 w2 ay ae bd
    clear bl
    clear ad
    clear ai
    clear bi
    replace B1:=h! (ae _ _ (by simp) B1.out)
    replace B5:=h! (ae _ _ (by simp) B5.out)
    replace BT:=h! (ae _ _ (by simp) BT.out)
    replace HO:=h! ay
    replace HW:=h! (HW.out.trans bd)
    clear ay ae bd BN
    obtain ⟨ad,ag,ah⟩:=B1.out
    obtain ⟨ai,aj,ak⟩:=B5.out
    obtain ⟨bi,cm,cn⟩:=BT.out
    go_wp2
    go_roundw
    case rel=>exact ⟨q2+1,hlt2,by go_num,by rw [ei.out, <-List.append_assoc,kQ];exact HO.out,HW.out,B1.out,B5.out,BT.out⟩
    simp [intOf];omega
   obtain rfl:q2=al:=by omega
   rw [aJ (by rw [ch.out];omega)] at HO
   go_wp2
   go_roundw
   case rel=>exact ⟨q+1,hltq,by go_num,by rw [HQ.out,aI, <-bh.out,ch.out];exact HO.out.less (by simp),HW.out,B1.out,B5.out⟩
   simp [intOf];omega
  obtain rfl:q=cl:=by omega
  rw [aJ (by rw [dY];have:=ex.out;omega)] at cs
  have HQ:Hid ((f.blocks.zipIdx.take (j+1)).flatMap uxB=L2 ++ uxT j x):=h! (by rw [gh.out, <-HL.out,cs.out,cj.out];unfold uxB;simp [bN])
  have an:nL+(uxT j x).length <= 2097152:=by
   have h1:=bk.out
   rw [bh.out,cs.out,aI,cj.out,aI]
   omega
  have di:Hid (uxT j x=if x.term.op=2 then [⟨x.term.val,2,j,x.code.length,0⟩] else if x.term.op=3 then [⟨x.term.val,0,j,x.code.length,0⟩] else []):=h! rfl
  rw [<-ex.out] at di
  cases h2:(x.term.op == 2)
  ·have H2:=h! h2
   cases h3:(x.term.op == 3)
   ·have ao:Hid (uxT j x=[]):=h! (by rw [di.out,if_neg (by simpa using h2),if_neg (by simpa using h3)])
    go_wp2
    go_roundw
    case rel=>exact ⟨j+1,hltb,by go_num,by rw [HQ.out,ao.out,bY, <-bh.out];exact HO.out.less (by simp),HW.out,B1.out⟩
    simp [intOf];omega
   have ao:Hid (uxT j x=[⟨x.term.val,0,j,q,0⟩]):=h! (by rw [di.out,if_neg (by simpa using h2),if_pos (by simpa using h3)])
   rw [ao.out] at an
   simp only [bE,cI,bH] at an
   go_wp2_with (at_builtin;refine gJ rfl _ _ 37 40 rfl aC6 rfl rfl (HO.out.alloc _) (Row.of_box (n:=1) (size:=5) (Box.new _ _ _) rfl (by omega)) (by simp [Value.oneCell']) (by unfold maxLen;omega) (by omega) (by simp;have:=HW.out.size;omega) (by intro b hb;simp at hb ⊢;omega) ?_;intro v2 w2 ay ae bd)
   clear ad ag ah ai aj ak
   replace B1:=h! (ae _ _ (by simp) (B1.out.alloc _))
   replace B5:=h! (ae _ _ (by simp) (B5.out.alloc _))
   replace HO:=h! ay
   replace HW:=h! ((HW.out.alloc (by have:=HW.out.size;omega) _).trans bd)
   clear ay ae bd
   obtain ⟨ad,ag,ah⟩:=B1.out
   obtain ⟨ai,aj,ak⟩:=B5.out
   go_wp2
   go_roundw
   case rel=>exact ⟨j+1,hltb,by go_num,by rw [HQ.out,ao.out,kQ,aI, <-bh.out];exact HO.out.less (by simp),HW.out,B1.out⟩
   simp [intOf];omega
  have ao:Hid (uxT j x=[⟨x.term.val,2,j,q,0⟩]):=h! (by rw [di.out,if_pos (by simpa using h2)])
  have H3:Hid ((x.term.op == 3)=false):=h! (by simp at h2 ⊢;omega)
  rw [ao.out] at an
  simp only [bE,cI,bH] at an
  go_upto_region 22 with (fail)
  clear h2
  have h3:=H3.out
  go_upto_region 23 with (at_builtin;refine gJ rfl _ _ 37 40 rfl aC6 rfl rfl (HO.out.alloc _) (Row.of_box (n:=1) (size:=5) (Box.new _ _ _) rfl (by omega)) (by simp [Value.oneCell']) (by unfold maxLen;omega) (by omega) (by simp;have:=HW.out.size;omega) (by intro b hb;simp at hb ⊢;omega) ?_;intro v2 w2 ay ae bd)
  clear ad ag ah ai aj ak
  replace B1:=h! (ae _ _ (by simp) (B1.out.alloc _))
  replace B5:=h! (ae _ _ (by simp) (B5.out.alloc _))
  replace HO:=h! ay
  replace HW:=h! ((HW.out.alloc (by have:=HW.out.size;omega) _).trans bd)
  clear ay ae bd
  obtain ⟨ad,ag,ah⟩:=B1.out
  obtain ⟨ai,aj,ak⟩:=B5.out
  go_wp2
  go_roundw
  case rel=>exact ⟨j+1,hltb,by go_num,by rw [HQ.out,ao.out,kQ,aI, <-bh.out];exact HO.out.less (by simp),HW.out,B1.out⟩
  simp [intOf];omega
 obtain rfl:j=nb:=by omega
 rw [aJ (by rw [dY];have:=fm.out;omega)] at HL
 rw [<-gd.out] at HL
 go_wp2
 go_ret
 exact ⟨_,rfl,by rw [<-HL.out];exact HO.out.row,HW.out⟩
end Go.Proofs.YtagabiidbbhhmaaGreat
