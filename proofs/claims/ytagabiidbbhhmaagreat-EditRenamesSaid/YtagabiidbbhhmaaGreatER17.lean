/- Part 17. -/
import Derived.Test.YtagabiidbbhhmaaGreatER16
namespace Go.Proofs.YtagabiidbbhhmaaGreat
set_option linter.all false
open Go.RowKit
theorem aC9:Elem Tryz.prog 37 40 (.agg #[.int .i64 0,.int .i64 0,.int .i64 0,.int .i64 0,.int .i64 0]) 5 40:=lQ Tryz.underlying37 (by kernel_rfl) rfl (by omega)
def aGY (T:List UseD) (w:World) (e:Ending) (w' : World):Prop := ∃ u,e = .returned u/\w'.ownsRow w.heap.size 40 5 u T.length (jD T)/\Below w.heap.size w w'
theorem New.box {T:TypeId} {w w' : World} {u:Value} {xs:List Int} (h:New T w w' u xs) (hp:0 < xs.length):∃ g cap A,u = .slice (some ⟨g,0,none⟩) xs.length cap/\w.heap.size <= g/\Box w' g A /\ ∀ j,j < xs.length -> A[j]? = some (.int .i64 (xs.getD j 0)):=by
 rcases h.own.2 with ⟨_,h2⟩ | ⟨g,cap,aa,hv,hb,hh,h1,h2,h3,h4⟩
 ·omega
 refine ⟨g,cap,aa,hv,hb,⟨(aN.1 hh).1,fun o => ?_,fun o => ?_⟩,fun j hj => ?_⟩
 ·simp only [World.cell?,hh];simp
 ·simp only [World.frozen?,hh];simp
 have e:=congrArg (fun l=>l[j]?) h4
 simp only [aQ,fK xs j hj,cR] at e
 rw [bC] at e
 split at e
 ·simpa using e
 cases e
set_option maxHeartbeats 12800000 in
set_option maxRecDepth 100000 in
theorem aA6 {w:World} {v:Value} {f:FuncD} (hv:fU w v f) (he:Even f):Calls Tryz.prog 21 #[v] w (aGY (uxF f) w):=by
 obtain ⟨ap,cp,ab,cb,rfl,hp,ha,hc,hB⟩:=hv.form
 obtain ⟨a2,c2,bb,bo,gd,fF,hbm,gb,dv,fb⟩:=eY hB
 cases gd
 have dz:=aAA he
 have ft:Hid (∀ j x,f.blocks[j]? = some x -> ((f.blocks.zipIdx.take j).flatMap uxB).length+(x.phis.flatMap (uxP j)).length+(x.code.zipIdx.flatMap (uxI j)).length+(uxT j x).length <= 2097152):=h! (fun j x hj=>by
  have h1:=iJ uxB f.blocks.zipIdx (j+1)
  rw [gT uxB _ _ (x,j) (by simp [cT,hj]),aI] at h1
  have h2:(uxB (x,j)).length=(x.phis.flatMap (uxP j)).length+(x.code.zipIdx.flatMap (uxI j)).length+(uxT j x).length:=by unfold uxB;rw [aI,aI]
  have h3:(uxF f).length=(f.blocks.zipIdx.flatMap uxB).length:=rfl
  omega)
 have fl:Hid (Even f):=h! he
 have gn:Hid (uxF f=f.blocks.zipIdx.flatMap uxB):=h! rfl
 obtain ⟨np,fm⟩ : ∃ np,np=f.params.length:=⟨_,rfl⟩
 obtain ⟨nb,eg⟩ : ∃ nb,nb=f.blocks.length:=⟨_,rfl⟩
 rw [<-fm]
 rw [<-eg] at fF dv gb ⊢
 have ff:=h! eg
 have gl:=h! dv
 have gs:=h! fb
 clear hp ha hc hB hv dv fb fm eg he dz
 generalize f.arrays=ar at *
 generalize f.cells=ce at *
 go_enter Tryz.func21,Tryz.ntmps21
 go_upto_region 1 with (fail)
 have br:=(Below.refl w.heap.size w).alloc (aB _) (.cells #[.slice ap np cp,.int .i64 ar,.int .i64 ce,.slice ab nb cb] 25)
 have HW:=h! br
 clear br
 have B1:=h! (Box.new w #[.slice ap np cp,.int .i64 ar,.int .i64 ce,.slice ab nb cb] 25)
 generalize w.alloc (.cells #[.slice ap np cp,.int .i64 ar,.int .i64 ce,.slice ab nb cb] 25)=wv at *
 obtain ⟨ad,ah,ag⟩:=B1.out
 go_wp2_with fail
 have HO:Hid (Own (wv.alloc (.cells #[] 40)) w.heap.size [w.heap.size] 40 5 (.slice (some ⟨wv.heap.size,0,none⟩) 0 0) 0 []):=h! (kE HW.out.size (by intro b hb;simp at hb;omega) 5)
 have es:=(Below.refl wv.heap.size wv).alloc (aB _) (.cells #[] 40)
 clear ad ah ag
 replace B1:=h! (B1.out.later es)
 replace HW:=h! (HW.out.trans (es.mono HW.out.size))
 clear es
 obtain ⟨ad,ah,ag⟩:=B1.out
 generalize wv.alloc _=wa at *
 go_loopw [3,4] (fun u i wr => ∃ j:Nat,j <= nb/\i = .int .i64 j/\Own wr w.heap.size [w.heap.size] 40 5 u ((f.blocks.zipIdx.take j).flatMap uxB).length (jD ((f.blocks.zipIdx.take j).flatMap uxB))/\Below w.heap.size w wr/\Box wr w.heap.size #[.slice ap np cp,.int .i64 ar,.int .i64 ce,.slice ab nb cb]) (fun _ i _=>nb - (intOf i).toNat)
 case atStart=>exact ⟨0,aJ _,rfl,HO.out,HW.out,B1.out⟩
 obtain ⟨j,hj,rfl,hO,hW,aq⟩:=hrel
 clear ad ah ag
 obtain ⟨L,hL⟩ : ∃ L,L=(f.blocks.zipIdx.take j).flatMap uxB:=⟨_,rfl⟩
 rw [<-hL] at hO
 obtain ⟨oa,oc,rfl⟩:=hO.form
 replace HO:=h! hO
 replace HW:=h! hW
 replace B1:=h! aq
 have HL:=h! hL
 clear hO hW aq hL
 generalize wr=wb at *
 obtain ⟨ad,ah,ag⟩:=B1.out
 by_cases hltb:j < nb
 ·obtain ⟨rfl,gh⟩:=gl.out (by omega)
  obtain ⟨x,cz⟩ : ∃ x,f.blocks[j]? = some x:=⟨_,aC (by have:=ff.out;omega)⟩
  obtain ⟨cj,ci,bz,cc,bm,cd,hC⟩:=gs.out j x cz
  have en:=ft.out j x cz
  have gr:=h! (gT uxB f.blocks.zipIdx j (x,j) (by simp [cT,cz]))
  have fo:=h! (aG cz)
  have dc:=hC.phis
  have cq:=hC.code
  obtain ⟨k0,k1,k2,k3,k4,k5,q1,q2,q3,q4,q5,q6⟩:=hC.below HW.out gh
  clear q1 q2 q3 q4 q5 q6 hC cz
  rw [<-HL.out] at en
  obtain ⟨pl,er⟩ : ∃ pl,pl=x.phis.length:=⟨_,rfl⟩
  obtain ⟨cl,dq⟩ : ∃ cl,cl=x.code.length:=⟨_,rfl⟩
  obtain ⟨ac,capc,fv,gi,db,ga,hcm,da,ed,fh⟩:=fZ cq
  obtain ⟨apx,capp,dh,dg,cs,ej,hppm,cy,bn,cr⟩:=fQ dc
  rw [<-er] at cs ej cy bn k0
  rw [<-dq] at db ga da ed k1
  cases cs
  cases db
  have fa:=h! er
  have ek:=h! dq
  have ey:=h! bn
  have ex:=h! cr
  have ds:=h! ed
  have dx:=h! fh
  clear er dq bn cr ed fh dc cq
  have bt:=h! en
  clear en
  replace HO:=h! (HO.out.more (b:=wb.heap.size) (aB _))
  go_upto_region 6 with (fail)
  have cF:wb.heap.size ≠ w.heap.size:=fun e=>by have:=ad;omega
  have nB1B5:w.heap.size ≠ wb.heap.size:=fun e=>cF e.symm
  clear ad ah ag
  have br:=(Below.refl wb.heap.size wb).alloc (aB _) (.cells #[.slice cj pl cc,.slice ci cl bm,.int .i64 x.term.op,.int .i64 x.term.val,.slice bz x.term.to.length cd,.int .i64 x.term.n] 63)
  replace B1:=h! (B1.out.later br)
  replace HO:=h! (HO.out.later br)
  replace HW:=h! (HW.out.trans (br.mono HW.out.size))
  clear br
  have B5:=h! (Box.new wb #[.slice cj pl cc,.slice ci cl bm,.int .i64 x.term.op,.int .i64 x.term.val,.slice bz x.term.to.length cd,.int .i64 x.term.n] 63)
  generalize wb.alloc (.cells #[.slice cj pl cc,.slice ci cl bm,.int .i64 x.term.op,.int .i64 x.term.val,.slice bz x.term.to.length cd,.int .i64 x.term.n] 63)=w6 at *
  obtain ⟨ad,ah,ag⟩:=B1.out
  obtain ⟨ai,aj,ak⟩:=B5.out
  clear k0 k1 k2 k3 k4 k5
  go_wp2_with fail
  go_loopw [3,6] (fun u i wr => ∃ k:Nat,k <= pl/\i = .int .i64 k/\Own wr w.heap.size [wb.heap.size,w.heap.size] 40 5 u (L ++ (x.phis.take k).flatMap (uxP j)).length (jD (L ++ (x.phis.take k).flatMap (uxP j)))/\Below w.heap.size w wr/\Box wr w.heap.size #[.slice ap np cp,.int .i64 ar,.int .i64 ce,.slice (some ⟨bb,bo,none⟩) nb cb]/\Box wr wb.heap.size #[.slice cj pl cc,.slice ci cl bm,.int .i64 x.term.op,.int .i64 x.term.val,.slice bz x.term.to.length cd,.int .i64 x.term.n]) (fun _ i _=>pl - (intOf i).toNat)
  case atStart=>exact ⟨0,aJ _,rfl,by simp only [aS,List.flatMap_nil,bY];exact HO.out,HW.out,B1.out,B5.out⟩
  obtain ⟨k,hk,rfl,hO,hW,aq,bd⟩:=hrel
  clear ad ah ag ai aj ak
  obtain ⟨L1,dy⟩ : ∃ L1,L1=L ++ (x.phis.take k).flatMap (uxP j):=⟨_,rfl⟩
  rw [<-dy] at hO
  obtain ⟨oa1,oc1,rfl⟩:=hO.form
  replace HO:=h! hO
  replace HW:=h! hW
  replace B1:=h! aq
  replace B5:=h! bd
  have ck:=h! dy
  clear hO hW aq bd dy
  generalize wr=w7 at *
  obtain ⟨ad,ah,ag⟩:=B1.out
  obtain ⟨ai,aj,ak⟩:=B5.out
  by_cases hlt:k < pl
  ·obtain ⟨rfl,co⟩:=ey.out (by omega)
   obtain ⟨p,dk⟩ : ∃ p,x.phis[k]? = some p:=⟨_,aC (by have:=fa.out;omega)⟩
   obtain ⟨af,av,cf,cv,hP⟩:=ex.out k p dk
   have cw:=h! (gT (uxP j) x.phis k p dk)
   have bO:=fl.out.phi x fo.out p (aG dk)
   have an:L1.length+(uxP j p).length <= 2097152:=by
    have h1:=bt.out
    have h2:=iJ (uxP j) x.phis (k+1)
    rw [cw.out,aI] at h2
    rw [ck.out,aI]
    omega
   obtain ⟨vl,di⟩ : ∃ vl,vl=p.vals.length:=⟨_,rfl⟩
   have bx:(uxP j p).length=vl:=by unfold uxP;rw [aW,eI];omega
   rw [bx] at an
   obtain ⟨gv,fy,bv,ov,em,ef,gf,bw,bq⟩:=hP.vals.parts
   obtain ⟨as',cs',bs,os,gm,fi,hsm',bj,dl⟩:=hP.src.parts
   cases em
   cases gm
   have HP:=h! hP
   rw [bO.1] at fi bj dl
   rw [<-di] at ef bw bq fi bj dl
   have eh:=h! di
   have cg:Hid (p.src.length=vl):=h! (by rw [bO.1,di])
   have dp:=h! bw
   have et:=h! bq
   have gg:=h! bj
   have gp:=h! dl
   have hv512:vl <= 512:=by omega
   obtain ⟨nL,bp⟩ : ∃ nL,nL=L1.length:=⟨_,rfl⟩
   rw [<-bp] at an HO ⊢
   have bi:=h! bp
   have cm:=h! bx
   clear hP dk bp bO di bw bq bj dl bx
   go_wp2_with fail
   go_loopw [3,7] (fun u i wr => ∃ q:Nat,q <= vl/\i = .int .i64 q/\Own wr w.heap.size [wb.heap.size,w.heap.size] 40 5 u (nL+q) (jD (L1 ++ (uxP j p).take q))/\Below w.heap.size w wr/\Box wr w.heap.size #[.slice ap np cp,.int .i64 ar,.int .i64 ce,.slice (some ⟨bb,bo,none⟩) nb cb]/\Box wr wb.heap.size #[.slice (some ⟨dh,dg,none⟩) pl cc,.slice ci cl bm,.int .i64 x.term.op,.int .i64 x.term.val,.slice bz x.term.to.length cd,.int .i64 x.term.n]) (fun _ i _=>vl - (intOf i).toNat)
   case atStart=>exact ⟨0,aJ _,rfl,by simp only [aS,bY];exact HO.out,HW.out,B1.out,B5.out⟩
   obtain ⟨q,hq,rfl,hO,hW,aq,bd⟩:=hrel
   clear ad ah ag ai aj ak
   obtain ⟨fp,fc,rfl⟩:=hO.form
   replace HO:=h! hO
   replace HW:=h! hW
   replace B1:=h! aq
   replace B5:=h! bd
   clear hO hW aq bd
   generalize wr=w9 at *
   obtain ⟨ad,ah,ag⟩:=B1.out
   obtain ⟨ai,aj,ak⟩:=B5.out
   obtain ⟨m0,m1,m2,m3,r1,r2,r3,r4⟩:=HP.out.below HW.out co
   rw [cg.out] at m2
   rw [<-eh.out] at m3
   clear r1 r2 r3 r4
   by_cases hltq:q < vl
   ·obtain ⟨rfl,dd⟩:=dp.out (by omega)
    obtain ⟨rfl,fg⟩:=gg.out (by omega)
    have ct:=h! (et.out q hltq)
    have ez:=h! (gp.out q hltq)
    have ee:=h! (eT (uxP j p) q ⟨p.vals.getD q 0,p.typ,j, -1,p.src.getD q 0⟩ (by
     unfold uxP
     rw [aQ,(cO (z:=(p.vals.getD q 0,p.src.getD q 0))).2 ⟨fK p.vals q (by have:=eh.out;omega),fK p.src q (by have:=cg.out;omega)⟩]
     rfl))
    have fj:Hid (∀ W,Below w9.heap.size w9 W -> W.cell? ⟨dh,dg+k * 4+1,none⟩=some (.int .i64 p.typ)/\W.cell? ⟨dh,dg+k * 4+2,none⟩=some (.slice (some ⟨bs,os,none⟩) vl cf)/\W.cell? ⟨dh,dg+k * 4+3,none⟩=some (.slice (some ⟨bv,ov,none⟩) vl cv)):=h! (fun W hb=>by
     have gc:=HW.out.trans (hb.mono HW.out.size)
     obtain ⟨z0,z1,z2,z3,_,_,_,_⟩:=HP.out.below gc co
     rw [cg.out] at z2
     rw [<-eh.out] at z3
     exact ⟨z1,z2,z3⟩)
    generalize p.vals.getD q 0=va at *
    generalize p.src.getD q 0=sa at *
    go_upto_region 12 with (fail)
    clear m0 m1 m2 m3
    refine wp_region_grow 28 (fun kz=>match kz with | 27=>.made w9.heap.size (fun b=>.slice (some ⟨b,0,none⟩) 1 1) #[.int .i64 va,.int .i64 p.typ,.int .i64 j,.int .i64 (-1),.int .i64 sa] | _=>.plain) (by kernel_rfl) (by kernel_rfl) ?_ (fun ν => ?_)
    ·(intro k;(try dsimp only);split <;> first | exact True.intro | (intro u w1 w2 hu hb;exact hu.below hb))
    simp only [aO,aS,aP,aU]
    iterate 27 (refine Grow.val (v := ?_) rfl rfl (fun wg hbg hdg => ?_) ?_;rotate_left;(focus ((obtain ⟨dt,dw,dr⟩:=B1.out.later hbg);(obtain ⟨ep,eb,eo⟩:=B5.out.later hbg);(obtain ⟨m1,m2,m3⟩:=fj.out wg hbg);(have ea:=((HW.out.trans (hbg.mono HW.out.size)).cell dd).trans ct.out);(have gj:=((HW.out.trans (hbg.mono HW.out.size)).cell fg).trans ez.out);clear hbg hdg;first | (go_simp;done) | (go_simp;with_reducible rfl)));simp only [Act.put,aA,aD,aE])
    refine Grow.made (T := ?_) rfl rfl (fun wg hbg hdg => ?_) ?_
    rotate_left
    focus ((obtain ⟨dt,dw,dr⟩:=B1.out.later hbg);(obtain ⟨ep,eb,eo⟩:=B5.out.later hbg);(obtain ⟨m1,m2,m3⟩:=fj.out wg hbg);(have ea:=((HW.out.trans (hbg.mono HW.out.size)).cell dd).trans ct.out);(have gj:=((HW.out.trans (hbg.mono HW.out.size)).cell fg).trans ez.out);clear hbg hdg;first | (go_simp;done) | (go_simp;with_reducible rfl))
    simp only [Act.put,Known.val,aA,aD,aE]
    intro wg hb hf ei
    obtain ⟨be,ax,bc,bf⟩:=hf 27 (by omega)
    have aw:be ≠ w.heap.size:=fun e=>by have:=ad;omega
    have cG:w.heap.size ≠ be:=fun e=>aw e.symm
    have az:be ≠ wb.heap.size:=fun e=>by have:=ai;omega
    have cx:wb.heap.size ≠ be:=fun e=>az e.symm
    simp only [ax]
    clear ax
    clear ei
    have gq:=bE HW.out.size bc
    clear bc
    clear ad ah ag ai aj ak
    replace B1:=h! (B1.out.later hb)
    replace B5:=h! (B5.out.later hb)
    replace HO:=h! (HO.out.later hb)
    replace HW:=h! (HW.out.trans (hb.mono HW.out.size))
    clear hb
    have BN:=h! bf
    clear bf
    obtain ⟨ad,ah,ag⟩:=B1.out
    obtain ⟨ai,aj,ak⟩:=B5.out
    obtain ⟨bk,ec,ev⟩:=BN.out
    clear hf
    clear ad ah ag ai aj ak bk ec ev
    have bk:=BN.out.lt
    have ad:=B1.out.lt
    have ai:=B5.out.lt
    refine gF rfl _ _ 37 40 rfl aC9 rfl rfl HO.out (Row.of_box (n:=1) (size:=5) BN.out rfl (by omega)) (by simp [Value.oneCell']) (by unfold maxLen;omega) (by omega) (by have:=HW.out.size;omega) (by intro b hb;simp at hb ⊢;omega) ?_
    intro v2 w2 ba ae ay
    clear bk
    clear ad
    clear ai
    replace B1:=h! (ae _ _ (by simp) B1.out)
    replace B5:=h! (ae _ _ (by simp) B5.out)
    replace HO:=h! ba
    replace HW:=h! (HW.out.trans ay)
    clear ba ae ay BN
    obtain ⟨ad,ah,ag⟩:=B1.out
    obtain ⟨ai,aj,ak⟩:=B5.out
    go_wp2
    go_roundw
    case rel=>exact ⟨q+1,hltq,by go_num,by rw [ee.out, <-List.append_assoc,kX];exact HO.out,HW.out,B1.out,B5.out⟩
    simp [intOf];omega
   obtain rfl:q=vl:=by omega
   rw [aH (by rw [cm.out];omega)] at HO
   have HQ:Hid (L ++ (x.phis.take (k+1)).flatMap (uxP j)=L1 ++ uxP j p):=h! (by rw [cw.out, <-List.append_assoc, <-ck.out])
   go_wp2
   go_roundw
   case rel=>exact ⟨k+1,hlt,by go_num,by rw [HQ.out,aI, <-bi.out,cm.out];exact HO.out,HW.out,B1.out,B5.out⟩
   simp [intOf];omega
  obtain rfl:k=pl:=by omega
  rw [aH (by have:=fa.out;omega)] at ck
  go_wp2_with fail
  go_loopw [3,8] (fun u i wr => ∃ q:Nat,q <= cl/\i = .int .i64 q/\Own wr w.heap.size [wb.heap.size,w.heap.size] 40 5 u (L1 ++ (x.code.zipIdx.take q).flatMap (uxI j)).length (jD (L1 ++ (x.code.zipIdx.take q).flatMap (uxI j)))/\Below w.heap.size w wr/\Box wr w.heap.size #[.slice ap np cp,.int .i64 ar,.int .i64 ce,.slice (some ⟨bb,bo,none⟩) nb cb]/\Box wr wb.heap.size #[.slice cj k cc,.slice ci cl bm,.int .i64 x.term.op,.int .i64 x.term.val,.slice bz x.term.to.length cd,.int .i64 x.term.n]) (fun _ i _=>cl - (intOf i).toNat)
  case atStart=>exact ⟨0,aJ _,rfl,by simp only [aS,List.flatMap_nil,bY];exact HO.out,HW.out,B1.out,B5.out⟩
  obtain ⟨q,hq,rfl,hO,hW,aq,bd⟩:=hrel
  clear ad ah ag ai aj ak
  obtain ⟨L2,ew⟩ : ∃ L2,L2=L1 ++ (x.code.zipIdx.take q).flatMap (uxI j):=⟨_,rfl⟩
  rw [<-ew] at hO
  obtain ⟨fp,fc,rfl⟩:=hO.form
  replace HO:=h! hO
  replace HW:=h! hW
  replace B1:=h! aq
  replace B5:=h! bd
  have cL:=h! ew
  clear hO hW aq bd ew
  generalize wr=w9 at *
  obtain ⟨ad,ah,ag⟩:=B1.out
  obtain ⟨ai,aj,ak⟩:=B5.out
  obtain ⟨nL,bp⟩ : ∃ nL,nL=L2.length:=⟨_,rfl⟩
  rw [<-bp] at HO ⊢
  have bi:=h! bp
  clear bp
  by_cases hltq:q < cl
  ·obtain ⟨rfl,co⟩:=ds.out (by omega)
   obtain ⟨y,df⟩ : ∃ y,x.code[q]? = some y:=⟨_,aC (by have:=ek.out;omega)⟩
   obtain ⟨aa,ca,hP⟩:=dx.out q y df
   have de:=h! (gT (uxI j) x.code.zipIdx q (y,q) (by simp [cT,df]))
   have bO:=fl.out.args x fo.out y (aG df)
   have HQ:Hid (L1 ++ (x.code.zipIdx.take (q+1)).flatMap (uxI j)=L2 ++ uxI j (y,q)):=h! (by rw [de.out, <-List.append_assoc, <-cL.out])
   have an:nL+(uxI j (y,q)).length <= 2097152:=by
    have h1:=bt.out
    have h2:=iJ (uxI j) x.code.zipIdx (q+1)
    rw [de.out,aI] at h2
    rw [bi.out,cL.out,aI,ck.out,aI]
    omega
   obtain ⟨al,dj⟩ : ∃ al,al=y.args.length:=⟨_,rfl⟩
   rw [<-dj] at bO
   have bx:(uxI j (y,q)).length=al:=by unfold uxI;rw [aW,eI];simp only;omega
   rw [bx] at an
   obtain ⟨gv,fy,bv,ov,em,ef,gf,bw,bq⟩:=hP.args.parts
   cases em
   rw [<-dj] at ef bw bq
   have HP:=h! hP
   have dn:=h! dj
   have dp:=h! bw
   have et:=h! bq
   have bh:=h! bO
   have cm:=h! bx
   clear hP df dj bw bq bO bx
   obtain ⟨m0,m1,m2,m3,r1,r2,r3,r4⟩:=HP.out.below HW.out co
   clear r1 r2 r3 r4
   go_wp2_with fail
   clear m0 m1 m2 m3
   refine (aFE y.op).mono ?_
   rintro e fM ⟨u,rfl,hu,am⟩
   obtain ⟨sargs,bj⟩ : ∃ sargs,sargs=(shp0 y.op).args:=⟨_,rfl⟩
   have fB:Hid (uxI j (y,q)=(y.args.zip sargs).map fun at_=>⟨at_.1,at_.2,j,q,0⟩):=h! (by rw [bj];rfl)
   rw [<-bj] at hu bh
   have bl:=HO.out
   clear bj
   by_cases hs0:al=0
   ·have gk:∃ ua uc,u = .slice ua 0 uc:=by
     obtain ⟨ua,uc,h⟩:=hu.ints.form
     have h2:=bh.out
     exact ⟨ua,uc,by rw [h];congr 1;omega⟩
    obtain ⟨ua,uc,rfl⟩:=gk
    have fw:=h! hs0
    clear hu hs0 bl
    clear ad ah ag ai aj ak
    replace B1:=h! (B1.out.later am)
    replace B5:=h! (B5.out.later am)
    replace HO:=h! (HO.out.later am)
    replace HW:=h! (HW.out.trans (am.mono HW.out.size))
    clear am
    obtain ⟨ad,ah,ag⟩:=B1.out
    obtain ⟨ai,aj,ak⟩:=B5.out
    go_wp2_with fail
    go_loopw [3,12] (fun u i wr=>u = .slice fp nL fc/\i = .int .i64 0/\wr=fM) (fun _ _ _=>0)
    case atStart=>exact ⟨rfl,rfl,rfl⟩
    case round =>
     obtain ⟨rfl,rfl,rfl⟩:=hrel
     go_wp2
     go_roundw
     case rel=>exact ⟨q+1,hltq,by go_num,by rw [HQ.out,aI, <-bi.out,show uxI j (y,q)=[] by (rw [<-List.length_eq_zero_iff,cm.out];exact fw.out),bY];exact HO.out,HW.out,B1.out,B5.out⟩
     simp [intOf];omega
   obtain ⟨g,cap,A,rfl,hg,cM,fk⟩:=hu.box (by have:=bh.out;omega)
   replace HO:=h! (bl.more (b:=g) hg)
   have cg:Hid (sargs.length=al):=h! bh.out.symm
   rw [cg.out]
   have BT:=h! cM
   have fz:=h! fk
   have n1:g ≠ wb.heap.size:=fun e=>by omega
   have n2:g ≠ w.heap.size:=fun e=>by omega
   have n3:wb.heap.size ≠ g:=fun e=>n1 e.symm
   have n4:w.heap.size ≠ g:=fun e=>n2 e.symm
   have halp:0 < al:=by omega
   clear hu hs0 bl cM fk
   clear ad ah ag ai aj ak
   replace B1:=h! (B1.out.later am)
   replace B5:=h! (B5.out.later am)
   replace HO:=h! (HO.out.later am)
   replace HW:=h! (HW.out.trans (am.mono HW.out.size))
   clear am
   obtain ⟨ad,ah,ag⟩:=B1.out
   obtain ⟨ai,aj,ak⟩:=B5.out
   clear ad ah ag ai aj ak
   obtain ⟨ad,ah,ag⟩:=B1.out
   obtain ⟨ai,aj,ak⟩:=B5.out
   obtain ⟨bg,cn,ch⟩:=BT.out
   go_wp2_with fail
   go_loopw [3,12] (fun u i wr => ∃ q2:Nat,q2 <= al/\i = .int .i64 q2/\Own wr w.heap.size [g,wb.heap.size,w.heap.size] 40 5 u (nL+q2) (jD (L2 ++ (uxI j (y,q)).take q2))/\Below w.heap.size w wr/\Box wr w.heap.size #[.slice ap np cp,.int .i64 ar,.int .i64 ce,.slice (some ⟨bb,bo,none⟩) nb cb]/\Box wr wb.heap.size #[.slice cj k cc,.slice (some ⟨fv,gi,none⟩) cl bm,.int .i64 x.term.op,.int .i64 x.term.val,.slice bz x.term.to.length cd,.int .i64 x.term.n]/\Box wr g A) (fun _ i _=>al - (intOf i).toNat)
   case atStart=>exact ⟨0,aJ _,rfl,by simp only [aS,bY];exact HO.out,HW.out,B1.out,B5.out,BT.out⟩
   obtain ⟨q2,hq2,rfl,hO,hW,aq,bd,fe⟩:=hrel
   clear ad ah ag ai aj ak bg cn ch
   obtain ⟨oa3,oc3,rfl⟩:=hO.form
   replace HO:=h! hO
   replace HW:=h! hW
   replace B1:=h! aq
   replace B5:=h! bd
   replace BT:=h! fe
   clear hO hW aq bd fe
   generalize wr=fx at *
   obtain ⟨ad,ah,ag⟩:=B1.out
   obtain ⟨ai,aj,ak⟩:=B5.out
   obtain ⟨bg,cn,ch⟩:=BT.out
   by_cases hlt2:q2 < al
   ·obtain ⟨rfl,dd⟩:=dp.out (by omega)
    have ct:=h! (et.out q2 hlt2)
    have fd:=h! (fz.out q2 (by have:=cg.out;omega))
    have ee:=h! (eT (uxI j (y,q)) q2 ⟨y.args.getD q2 0,sargs.getD q2 0,j,q,0⟩ (by
     rw [fB.out,aQ,(cO (z:=(y.args.getD q2 0,sargs.getD q2 0))).2 ⟨fK y.args q2 (by have:=dn.out;omega),fK sargs q2 (by have:=cg.out;omega)⟩]
     rfl))
    generalize y.args.getD q2 0=va at *
    generalize sargs.getD q2 0=ta at *
    go_upto_region 20 with (fail)
    refine wp_region_grow 18 (fun kz=>match kz with | 17=>.made fx.heap.size (fun b=>.slice (some ⟨b,0,none⟩) 1 1) #[.int .i64 va,.int .i64 ta,.int .i64 j,.int .i64 q,.int .i64 0] | _=>.plain) (by kernel_rfl) (by kernel_rfl) ?_ (fun ν => ?_)
    ·(intro k;(try dsimp only);split <;> first | exact True.intro | (intro u w1 w2 hu hb;exact hu.below hb))
    simp only [aO,aS,aP,aU]
    iterate 17 (refine Grow.val (v := ?_) rfl rfl (fun wg hbg hdg => ?_) ?_;rotate_left;(focus ((obtain ⟨dt,dw,dr⟩:=B1.out.later hbg);(obtain ⟨ep,eb,eo⟩:=B5.out.later hbg);(obtain ⟨fs,fG,fq⟩:=BT.out.later hbg);(obtain ⟨m0,m1,m2,m3,r1,r2,r3,r4⟩:=HP.out.below (HW.out.trans (hbg.mono HW.out.size)) co);(rw [<-dn.out] at m2;clear r1 r2 r3 r4);(have ea:=((HW.out.trans (hbg.mono HW.out.size)).cell dd).trans ct.out);(have fL:=fd.out);clear hbg hdg;first | (go_simp;done) | (go_simp;with_reducible rfl)));simp only [Act.put,aA,aD,aE])
    refine Grow.made (T := ?_) rfl rfl (fun wg hbg hdg => ?_) ?_
    rotate_left
    focus ((obtain ⟨dt,dw,dr⟩:=B1.out.later hbg);(obtain ⟨ep,eb,eo⟩:=B5.out.later hbg);(obtain ⟨fs,fG,fq⟩:=BT.out.later hbg);(obtain ⟨m0,m1,m2,m3,r1,r2,r3,r4⟩:=HP.out.below (HW.out.trans (hbg.mono HW.out.size)) co);(rw [<-dn.out] at m2;clear r1 r2 r3 r4);(have ea:=((HW.out.trans (hbg.mono HW.out.size)).cell dd).trans ct.out);(have fL:=fd.out);clear hbg hdg;first | (go_simp;done) | (go_simp;with_reducible rfl))
    simp only [Act.put,Known.val,aA,aD,aE]
    intro wg hb hf ei
    obtain ⟨be,ax,bc,bf⟩:=hf 17 (by omega)
    have aw:be ≠ w.heap.size:=fun e=>by have:=ad;omega
    have cG:w.heap.size ≠ be:=fun e=>aw e.symm
    have az:be ≠ wb.heap.size:=fun e=>by have:=ai;omega
    have cx:wb.heap.size ≠ be:=fun e=>az e.symm
    have cB:be ≠ g:=fun e=>by have:=bg;omega
    have nBTBN:g ≠ be:=fun e=>cB e.symm
    simp only [ax]
    clear ax
    clear ei
    have gq:=bE HW.out.size bc
    clear bc
    clear ad ah ag ai aj ak bg cn ch
    replace B1:=h! (B1.out.later hb)
    replace B5:=h! (B5.out.later hb)
    replace BT:=h! (BT.out.later hb)
    replace HO:=h! (HO.out.later hb)
    replace HW:=h! (HW.out.trans (hb.mono HW.out.size))
    clear hb
    have BN:=h! bf
    clear bf
    obtain ⟨ad,ah,ag⟩:=B1.out
    obtain ⟨ai,aj,ak⟩:=B5.out
    obtain ⟨bg,cn,ch⟩:=BT.out
    obtain ⟨bk,ec,ev⟩:=BN.out
    clear hf
    clear ad ah ag ai aj ak bg cn ch bk ec ev
    have bk:=BN.out.lt
    have ad:=B1.out.lt
    have ai:=B5.out.lt
    have bg:=BT.out.lt
    refine gF rfl _ _ 37 40 rfl aC9 rfl rfl HO.out (Row.of_box (n:=1) (size:=5) BN.out rfl (by omega)) (by simp [Value.oneCell']) (by unfold maxLen;omega) (by omega) (by have:=HW.out.size;omega) (by intro b hb;simp at hb ⊢;omega) ?_
    intro v2 w2 ba ae ay
    clear bk
    clear ad
    clear ai
    clear bg
    replace B1:=h! (ae _ _ (by simp) B1.out)
    replace B5:=h! (ae _ _ (by simp) B5.out)
    replace BT:=h! (ae _ _ (by simp) BT.out)
    replace HO:=h! ba
    replace HW:=h! (HW.out.trans ay)
    clear ba ae ay BN
    obtain ⟨ad,ah,ag⟩:=B1.out
    obtain ⟨ai,aj,ak⟩:=B5.out
    obtain ⟨bg,cn,ch⟩:=BT.out
    go_wp2
    go_roundw
    case rel=>exact ⟨q2+1,hlt2,by go_num,by rw [ee.out, <-List.append_assoc,kX];exact HO.out,HW.out,B1.out,B5.out,BT.out⟩
    simp [intOf];omega
   obtain rfl:q2=al:=by omega
   rw [aH (by rw [cm.out];omega)] at HO
   go_wp2
   go_roundw
   case rel=>exact ⟨q+1,hltq,by go_num,by rw [HQ.out,aI, <-bi.out,cm.out];exact HO.out.less (by simp),HW.out,B1.out,B5.out⟩
   simp [intOf];omega
  obtain rfl:q=cl:=by omega
  rw [aH (by rw [eD];have:=ek.out;omega)] at cL
  have HQ:Hid ((f.blocks.zipIdx.take (j+1)).flatMap uxB=L2 ++ uxT j x):=h! (by rw [gr.out, <-HL.out,cL.out,ck.out];unfold uxB;simp [bQ])
  have an:nL+(uxT j x).length <= 2097152:=by
   have h1:=bt.out
   rw [bi.out,cL.out,aI,ck.out,aI]
   omega
  have dm:Hid (uxT j x=if x.term.op=2 then [⟨x.term.val,2,j,x.code.length,0⟩] else if x.term.op=3 then [⟨x.term.val,0,j,x.code.length,0⟩] else []):=h! rfl
  rw [<-ek.out] at dm
  cases h2:(x.term.op == 2)
  ·have H2:=h! h2
   cases h3:(x.term.op == 3)
   ·have ao:Hid (uxT j x=[]):=h! (by rw [dm.out,if_neg (by simpa using h2),if_neg (by simpa using h3)])
    go_wp2
    go_roundw
    case rel=>exact ⟨j+1,hltb,by go_num,by rw [HQ.out,ao.out,bY, <-bi.out];exact HO.out.less (by simp),HW.out,B1.out⟩
    simp [intOf];omega
   have ao:Hid (uxT j x=[⟨x.term.val,0,j,q,0⟩]):=h! (by rw [dm.out,if_neg (by simpa using h2),if_pos (by simpa using h3)])
   rw [ao.out] at an
   simp only [bF,cN,bH] at an
   go_wp2_with (at_builtin;refine gF rfl _ _ 37 40 rfl aC9 rfl rfl (HO.out.alloc _) (Row.of_box (n:=1) (size:=5) (Box.new _ _ _) rfl (by omega)) (by simp [Value.oneCell']) (by unfold maxLen;omega) (by omega) (by simp;have:=HW.out.size;omega) (by intro b hb;simp at hb ⊢;omega) ?_;intro v2 w2 ba ae ay)
   clear ad ah ag ai aj ak
   replace B1:=h! (ae _ _ (by simp) (B1.out.alloc _))
   replace B5:=h! (ae _ _ (by simp) (B5.out.alloc _))
   replace HO:=h! ba
   replace HW:=h! ((HW.out.alloc (by have:=HW.out.size;omega) _).trans ay)
   clear ba ae ay
   obtain ⟨ad,ah,ag⟩:=B1.out
   obtain ⟨ai,aj,ak⟩:=B5.out
   go_wp2
   go_roundw
   case rel=>exact ⟨j+1,hltb,by go_num,by rw [HQ.out,ao.out,kX,aI, <-bi.out];exact HO.out.less (by simp),HW.out,B1.out⟩
   simp [intOf];omega
  have ao:Hid (uxT j x=[⟨x.term.val,2,j,q,0⟩]):=h! (by rw [dm.out,if_pos (by simpa using h2)])
  have H3:Hid ((x.term.op == 3)=false):=h! (by simp at h2 ⊢;omega)
  rw [ao.out] at an
  simp only [bF,cN,bH] at an
  go_upto_region 22 with (fail)
  clear h2
  have h3:=H3.out
  go_upto_region 23 with (at_builtin;refine gF rfl _ _ 37 40 rfl aC9 rfl rfl (HO.out.alloc _) (Row.of_box (n:=1) (size:=5) (Box.new _ _ _) rfl (by omega)) (by simp [Value.oneCell']) (by unfold maxLen;omega) (by omega) (by simp;have:=HW.out.size;omega) (by intro b hb;simp at hb ⊢;omega) ?_;intro v2 w2 ba ae ay)
  clear ad ah ag ai aj ak
  replace B1:=h! (ae _ _ (by simp) (B1.out.alloc _))
  replace B5:=h! (ae _ _ (by simp) (B5.out.alloc _))
  replace HO:=h! ba
  replace HW:=h! ((HW.out.alloc (by have:=HW.out.size;omega) _).trans ay)
  clear ba ae ay
  obtain ⟨ad,ah,ag⟩:=B1.out
  obtain ⟨ai,aj,ak⟩:=B5.out
  go_wp2
  go_roundw
  case rel=>exact ⟨j+1,hltb,by go_num,by rw [HQ.out,ao.out,kX,aI, <-bi.out];exact HO.out.less (by simp),HW.out,B1.out⟩
  simp [intOf];omega
 obtain rfl:j=nb:=by omega
 rw [aH (by rw [eD];have:=ff.out;omega)] at HL
 rw [<-gn.out] at HL
 go_wp2
 go_ret
 exact ⟨_,rfl,by rw [<-HL.out];exact HO.out.row,HW.out⟩
end Go.Proofs.YtagabiidbbhhmaaGreat
