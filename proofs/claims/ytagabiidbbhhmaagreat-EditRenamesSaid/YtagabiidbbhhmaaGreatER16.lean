/- Part 16. -/
import Derived.Test.YtagabiidbbhhmaaGreatER15
namespace Go.Proofs.YtagabiidbbhhmaaGreat
set_option linter.all false
open Go.RowKit
theorem zY {w:World} {v:Value} {f:FuncD} (hv:fU w v f):Calls Tryz.prog 69 #[v] w fun e w'=>e = .returned (.bool (gW f))/\Below w.heap.size w w':=by
 cases h:jG f
 ·have h2:gW f=false:=by unfold gW;rw [h];rfl
  rw [h2];exact uP hv h
 have h2:gW f=(f.params.all kH && f.blocks.zipIdx.all (gI f.blocks.length f.arrays f.cells)):=by unfold gW;rw [h];rfl
 unfold jG at h
 simp only [aL,decide_eq_true_eq] at h
 obtain ⟨⟨⟨⟨⟨⟨⟨q1,q2⟩,q3⟩,q4⟩,q5⟩,q6⟩,q7⟩,q8⟩:=h
 obtain ⟨ap,cp,ab,cb,rfl,hp,ha,hc,hB⟩:=hv.form
 exact qZ rfl rfl rfl rfl hp hB ha hc q1 ⟨q2,q3⟩ ⟨q4,q5⟩ ⟨q6,q7⟩ q8 h2
def defP (p:PhiD):List (Int × Int):=[(p.id,p.typ)]
theorem qA (b:BlockD):iX b=b.phis.flatMap defP ++ b.code.flatMap defI:=by
 unfold iX;rw [tD, <-tC];rfl
theorem iJ {α β : Type} (g : α -> List β) (l:List α) (j:Nat):((l.take j).flatMap g).length <= (l.flatMap g).length:=by
 have h:=dC j l
 have h2:(l.flatMap g).length=((l.take j).flatMap g).length+((l.drop j).flatMap g).length:=by rw [<-List.length_append, <-List.flatMap_append,h]
 omega
def iH (T:List (Int × Int)):List Value:=T.flatMap fun p=>[.int .i64 p.1,.int .i64 p.2]
theorem jV (T:List (Int × Int)) (a b:Int):iH (T ++ [(a,b)])=iH T ++ [.int .i64 a,.int .i64 b]:=by unfold iH;simp
theorem aD2:Elem Tryz.prog 101 104 (.agg #[.int .i64 0,.int .i64 0]) 2 16:=lQ Tryz.underlying101 (by kernel_rfl) rfl (by omega)
def aGS (T:List (Int × Int)) (w:World) (e:Ending) (w' : World):Prop := ∃ u,e = .returned u/\w'.ownsRow w.heap.size 104 2 u T.length (iH T)/\Below w.heap.size w w'
set_option maxHeartbeats 12800000 in
set_option maxRecDepth 100000 in
theorem oS {w:World} {v:Value} {f:FuncD} (hv:fU w v f) (hsm:(fJ f).length <= 8192):Calls Tryz.prog 52 #[v] w (aGS (fJ f) w):=by
 obtain ⟨ap,cp,ab,cb,rfl,hp,ha,hc,hB⟩:=hv.form
 obtain ⟨a1,c1,pb,po,ea,ec,hpm,cz,cq⟩:=hp.parts
 cases ea
 obtain ⟨a2,c2,bb,bo,dz,dt,hbm,dy,cs,dh⟩:=eY hB
 cases dz
 have dm:Hid (∀ j x,f.blocks[j]? = some x -> (parT f.params ++ (f.blocks.take j).flatMap iX).length+(x.phis.flatMap defP).length+(x.code.flatMap defI).length <= 8192):=h! (fun j x hj=>by
  have h1:=iJ iX f.blocks (j+1)
  rw [gT _ _ _ _ hj,aI,qA x,aI] at h1
  have h2:(fJ f).length=(parT f.params).length+(f.blocks.flatMap iX).length:=by unfold fJ oC;rw [aI]
  rw [aI]
  omega)
 have ci:f.params.length <= 8192:=by
  have h2:(fJ f).length=(parT f.params).length+(f.blocks.flatMap iX).length:=by unfold fJ oC;rw [aI]
  have h3:(parT f.params).length=f.params.length:=by unfold parT;simp
  omega
 have eg:Hid (fJ f=parT f.params ++ f.blocks.flatMap iX):=h! rfl
 obtain ⟨np,bx⟩ : ∃ np,np=f.params.length:=⟨_,rfl⟩
 obtain ⟨nb,cB⟩ : ∃ nb,nb=f.blocks.length:=⟨_,rfl⟩
 rw [<-bx] at ec cz cq ci ⊢
 rw [<-cB] at dt cs dy ⊢
 have ct:=h! bx
 have di:=h! cB
 have ee:=h! cz
 have dn:=h! cq
 have ef:=h! cs
 have ek:=h! dh
 clear hp ha hc hB hv hsm cz cq cs dh bx cB
 generalize f.arrays=ar at *
 generalize f.cells=ce at *
 go_enter Tryz.func52,Tryz.ntmps52
 go_upto_region 1 with (fail)
 have az:=(Below.refl w.heap.size w).alloc (aB _) (.cells #[.slice ap np cp,.int .i64 ar,.int .i64 ce,.slice ab nb cb] 25)
 have HW:=h! az
 clear az
 have B1:=h! (Box.new w #[.slice ap np cp,.int .i64 ar,.int .i64 ce,.slice ab nb cb] 25)
 generalize w.alloc (.cells #[.slice ap np cp,.int .i64 ar,.int .i64 ce,.slice ab nb cb] 25)=wv at *
 obtain ⟨ad,ah,ag⟩:=B1.out
 go_wp2_with fail
 have HO:Hid (Own (wv.alloc (.cells #[] 104)) w.heap.size [w.heap.size] 104 2 (.slice (some ⟨wv.heap.size,0,none⟩) 0 0) 0 []):=h! (kE HW.out.size (by intro b hb;simp at hb;omega) 2)
 have dc:=(Below.refl wv.heap.size wv).alloc (aB _) (.cells #[] 104)
 clear ad ah ag
 replace B1:=h! (B1.out.later dc)
 replace HW:=h! (HW.out.trans (dc.mono HW.out.size))
 clear dc
 obtain ⟨ad,ah,ag⟩:=B1.out
 generalize wv.alloc _=wa at *
 go_loopw [3,4] (fun u i wr => ∃ j:Nat,j <= np/\i = .int .i64 j/\Own wr w.heap.size [w.heap.size] 104 2 u j (iH (parT (f.params.take j)))/\Below w.heap.size w wr/\Box wr w.heap.size #[.slice ap np cp,.int .i64 ar,.int .i64 ce,.slice ab nb cb]) (fun _ i _=>np - (intOf i).toNat)
 case atStart=>exact ⟨0,aJ _,rfl,HO.out,HW.out,B1.out⟩
 obtain ⟨j,hj,rfl,hO,hW,ak⟩:=hrel
 clear ad ah ag
 obtain ⟨oa,oc,rfl⟩:=hO.form
 replace HO:=h! hO
 replace HW:=h! hW
 replace B1:=h! ak
 clear hO hW ak
 obtain ⟨ad,ah,ag⟩:=B1.out
 by_cases hlt:j < np
 ·obtain ⟨rfl,bc⟩:=ee.out (by omega)
  have hx0:=(HW.out.cell bc).trans (dn.out j hlt)
  have aw:=fK f.params j (by have:=ct.out;omega)
  have dp:=h! (rS f.params j _ aw)
  clear aw
  generalize f.params.getD j 0=t at *
  go_wp2_with (at_builtin;refine gF rfl _ _ 101 104 rfl aD2 rfl rfl (HO.out.alloc _) (Row.of_box (n:=1) (size:=2) (Box.new _ _ _) rfl (by omega)) (by simp [Value.oneCell']) (by unfold maxLen;omega) (by omega) (by simp;have:=HW.out.size;omega) (by intro b hb;simp at hb ⊢;omega) ?_;intro v2 w2 aq ae ao)
  clear ad ah ag
  replace B1:=h! (ae _ _ (by simp) (B1.out.alloc _))
  replace HO:=h! aq
  replace HW:=h! ((HW.out.alloc (by have:=HW.out.size;omega) _).trans ao)
  clear aq ae ao
  obtain ⟨ad,ah,ag⟩:=B1.out
  go_roundw
  case rel=>exact ⟨j+1,hlt,by go_num,by rw [dp.out,jV];exact HO.out,HW.out,B1.out⟩
  simp [intOf];omega
 obtain rfl:j=np:=by omega
 rw [aH (by have:=ct.out;omega)] at HO
 obtain ⟨np,bx⟩ : ∃ np,np=j:=⟨_,rfl⟩
 obtain rfl:=bx
 have en:Hid ((parT f.params).length=np):=h! (by unfold parT;simp [ct.out])
 go_wp2_with fail
 go_loopw [3,5] (fun u i wr => ∃ j:Nat,j <= nb/\i = .int .i64 j/\Own wr w.heap.size [w.heap.size] 104 2 u (parT f.params ++ (f.blocks.take j).flatMap iX).length (iH (parT f.params ++ (f.blocks.take j).flatMap iX))/\Below w.heap.size w wr/\Box wr w.heap.size #[.slice ap np cp,.int .i64 ar,.int .i64 ce,.slice ab nb cb]) (fun _ i _=>nb - (intOf i).toNat)
 case atStart=>exact ⟨0,aJ _,rfl,by simp only [aS,List.flatMap_nil,bY];rw [en.out];exact HO.out,HW.out,B1.out⟩
 obtain ⟨j,hj,rfl,hO,hW,ak⟩:=hrel
 clear ad ah ag
 obtain ⟨L,hL⟩ : ∃ L,L=parT f.params ++ (f.blocks.take j).flatMap iX:=⟨_,rfl⟩
 rw [<-hL] at hO
 obtain ⟨oa,oc,rfl⟩:=hO.form
 replace HO:=h! hO
 replace HW:=h! hW
 replace B1:=h! ak
 have HL:=h! hL
 clear hO hW ak hL
 generalize wr=wb at *
 obtain ⟨ad,ah,ag⟩:=B1.out
 by_cases hltb:j < nb
 ·obtain ⟨rfl,eb⟩:=ef.out (by omega)
  obtain ⟨x,aw⟩ : ∃ x,f.blocks[j]? = some x:=⟨_,aC (by have:=di.out;omega)⟩
  obtain ⟨bl,bj,br,bt,bm,bO,hC⟩:=ek.out j x aw
  have hsm:=dm.out j x aw
  have ej:=h! (gT iX f.blocks j x aw)
  have bw:=hC.phis
  have bd:=hC.code
  obtain ⟨k0,k1,k2,k3,k4,k5,q1,q2,q3,q4,q5,q6⟩:=hC.below HW.out eb
  clear q1 q2 q3 q4 q5 q6 hC aw
  rw [<-HL.out] at hsm
  obtain ⟨pl,db⟩ : ∃ pl,pl=x.phis.length:=⟨_,rfl⟩
  obtain ⟨cl,cm⟩ : ∃ cl,cl=x.code.length:=⟨_,rfl⟩
  obtain ⟨ac,capc,bcd,ocd,bv,dv,hcm,bs,cy,dk⟩:=fZ bd
  obtain ⟨apx,capp,bph,oph,bg,cF,hppm,bk,ax,be⟩:=fQ bw
  rw [<-db] at bg cF bk ax k0
  rw [<-cm] at bv dv bs cy k1
  cases bg
  cases bv
  have dg:=h! db
  have dl:=h! cm
  have df:=h! ax
  have de:=h! be
  have cr:=h! cy
  have cw:=h! dk
  clear db cm ax be cy dk bw bd
  have an:Hid (∀ k,(L ++ (x.phis.take k).flatMap defP).length <= 8192 /\ ∀ k2,(L ++ x.phis.flatMap defP ++ (x.code.take k2).flatMap defI).length <= 8192):=h! (fun k=>⟨by
   have:=iJ defP x.phis k
   rw [aI];omega,fun k2=>by
   have:=iJ defI x.code k2
   rw [aI,aI];omega⟩)
  clear hsm
  replace HO:=h! (HO.out.more (b:=wb.heap.size) (aB _))
  go_upto_region 10 with (fail)
  have bn:wb.heap.size ≠ w.heap.size:=fun e=>by have:=ad;omega
  have nB1B6:w.heap.size ≠ wb.heap.size:=fun e=>bn e.symm
  clear ad ah ag
  have az:=(Below.refl wb.heap.size wb).alloc (aB _) (.cells #[.slice bl pl bt,.slice bj cl bm,.int .i64 x.term.op,.int .i64 x.term.val,.slice br x.term.to.length bO,.int .i64 x.term.n] 63)
  replace B1:=h! (B1.out.later az)
  replace HO:=h! (HO.out.later az)
  replace HW:=h! (HW.out.trans (az.mono HW.out.size))
  clear az
  have B6:=h! (Box.new wb #[.slice bl pl bt,.slice bj cl bm,.int .i64 x.term.op,.int .i64 x.term.val,.slice br x.term.to.length bO,.int .i64 x.term.n] 63)
  generalize wb.alloc (.cells #[.slice bl pl bt,.slice bj cl bm,.int .i64 x.term.op,.int .i64 x.term.val,.slice br x.term.to.length bO,.int .i64 x.term.n] 63)=w6 at *
  obtain ⟨ad,ah,ag⟩:=B1.out
  obtain ⟨aj,am,al⟩:=B6.out
  clear k0 k1 k2 k3 k4 k5
  go_wp2_with fail
  go_loopw [3,7] (fun u i wr => ∃ k:Nat,k <= pl/\i = .int .i64 k/\Own wr w.heap.size [wb.heap.size,w.heap.size] 104 2 u (L ++ (x.phis.take k).flatMap defP).length (iH (L ++ (x.phis.take k).flatMap defP))/\Below w.heap.size w wr/\Box wr w.heap.size #[.slice ap np cp,.int .i64 ar,.int .i64 ce,.slice (some ⟨bb,bo,none⟩) nb cb]/\Box wr wb.heap.size #[.slice bl pl bt,.slice bj cl bm,.int .i64 x.term.op,.int .i64 x.term.val,.slice br x.term.to.length bO,.int .i64 x.term.n]) (fun _ i _=>pl - (intOf i).toNat)
  case atStart=>exact ⟨0,aJ _,rfl,by simp only [aS,List.flatMap_nil,bY];exact HO.out,HW.out,B1.out,B6.out⟩
  obtain ⟨k,hk,rfl,hO,hW,ak,bq⟩:=hrel
  clear ad ah ag aj am al
  have hsm:=(an.out (k+1)).1
  have ai:=(an.out k).1
  obtain ⟨L1,cx⟩ : ∃ L1,L1=L ++ (x.phis.take k).flatMap defP:=⟨_,rfl⟩
  rw [<-cx] at hO ai
  obtain ⟨oa1,oc1,rfl⟩:=hO.form
  replace HO:=h! hO
  replace HW:=h! hW
  replace B1:=h! ak
  replace B6:=h! bq
  have cd:=h! cx
  clear hO hW ak bq cx
  generalize wr=w7 at *
  obtain ⟨ad,ah,ag⟩:=B1.out
  obtain ⟨aj,am,al⟩:=B6.out
  by_cases hlt:k < pl
  ·obtain ⟨rfl,bc⟩:=df.out (by omega)
   obtain ⟨p,cL⟩ : ∃ p,x.phis[k]? = some p:=⟨_,aC (by have:=dg.out;omega)⟩
   obtain ⟨af,av,cf,cv,hP⟩:=de.out k p cL
   have co:=h! (gT defP x.phis k p cL)
   have HP:=h! hP
   have HQ:Hid (L ++ (x.phis.take (k+1)).flatMap defP=L1 ++ [(p.id,p.typ)]):=h! (by rw [co.out, <-List.append_assoc, <-cd.out];rfl)
   rw [HQ.out,aI] at hsm
   obtain ⟨nL,ay⟩ : ∃ nL,nL=L1.length:=⟨_,rfl⟩
   rw [<-ay] at hsm ai HO ⊢
   have cg:=h! ay
   simp only [bF,cN,bH] at hsm
   clear hP cL ay
   go_upto_region 13 with (fail)
   refine wp_region_grow 15 (fun kz=>match kz with | 14=>.made w7.heap.size (fun b=>.slice (some ⟨b,0,none⟩) 1 1) #[.int .i64 p.id,.int .i64 p.typ] | _=>.plain) (by kernel_rfl) (by kernel_rfl) ?_ (fun ν => ?_)
   ·(intro k;(try dsimp only);split <;> first | exact True.intro | (intro u w1 w2 hu hb;exact hu.below hb))
   simp only [aO,aS,aP,aU]
   iterate 14 (refine Grow.val (v := ?_) rfl rfl (fun wg hbg hdg => ?_) ?_;rotate_left;(focus ((obtain ⟨dr,ds,dq⟩:=B1.out.later hbg);(obtain ⟨ei,dw,eh⟩:=B6.out.later hbg);(obtain ⟨m0,m1,m2,m3,r1,r2,r3,r4⟩:=HP.out.below (HW.out.trans (hbg.mono HW.out.size)) bc;clear r1 r2 r3 r4);clear hbg hdg;first | (go_simp;done) | (go_simp;with_reducible rfl)));simp only [Act.put,aA,aD,aE])
   refine Grow.made (T := ?_) rfl rfl (fun wg hbg hdg => ?_) ?_
   rotate_left
   focus ((obtain ⟨dr,ds,dq⟩:=B1.out.later hbg);(obtain ⟨ei,dw,eh⟩:=B6.out.later hbg);(obtain ⟨m0,m1,m2,m3,r1,r2,r3,r4⟩:=HP.out.below (HW.out.trans (hbg.mono HW.out.size)) bc;clear r1 r2 r3 r4);clear hbg hdg;first | (go_simp;done) | (go_simp;with_reducible rfl))
   simp only [Act.put,Known.val,aA,aD,aE]
   intro wg hb hf ed
   obtain ⟨ch,bi,bp,bz⟩:=hf 14 (by omega)
   have bf:ch ≠ w.heap.size:=fun e=>by have:=ad;omega
   have nB1BN:w.heap.size ≠ ch:=fun e=>bf e.symm
   have cc:ch ≠ wb.heap.size:=fun e=>by have:=aj;omega
   have nB6BN:wb.heap.size ≠ ch:=fun e=>cc e.symm
   simp only [bi]
   clear bi
   clear ed
   have gBN:=bE HW.out.size bp
   clear bp
   clear ad ah ag aj am al
   replace B1:=h! (B1.out.later hb)
   replace B6:=h! (B6.out.later hb)
   replace HO:=h! (HO.out.later hb)
   replace HW:=h! (HW.out.trans (hb.mono HW.out.size))
   clear hb
   have BN:=h! bz
   clear bz
   obtain ⟨ad,ah,ag⟩:=B1.out
   obtain ⟨aj,am,al⟩:=B6.out
   obtain ⟨cn,dx,em⟩:=BN.out
   clear hf
   clear ad ah ag aj am al cn dx em
   have cn:=BN.out.lt
   have ad:=B1.out.lt
   have aj:=B6.out.lt
   refine gF rfl _ _ 101 104 rfl aD2 rfl rfl HO.out (Row.of_box (n:=1) (size:=2) BN.out rfl (by omega)) (by simp [Value.oneCell']) (by unfold maxLen;omega) (by omega) (by have:=HW.out.size;omega) (by intro b hb;simp at hb ⊢;omega) ?_
   intro v2 w2 aq ae ao
   clear cn
   clear ad
   clear aj
   replace B1:=h! (ae _ _ (by simp) B1.out)
   replace B6:=h! (ae _ _ (by simp) B6.out)
   replace HO:=h! aq
   replace HW:=h! (HW.out.trans ao)
   clear aq ae ao BN
   obtain ⟨ad,ah,ag⟩:=B1.out
   obtain ⟨aj,am,al⟩:=B6.out
   go_wp2
   go_roundw
   case rel=>exact ⟨k+1,hlt,by go_num,by rw [HQ.out,jV,aI, <-cg.out];exact HO.out,HW.out,B1.out,B6.out⟩
   simp [intOf];omega
  obtain rfl:k=pl:=by omega
  rw [aH (by have:=dg.out;omega)] at cd
  clear hsm ai
  go_wp2_with fail
  go_loopw [3,8] (fun u i wr => ∃ q:Nat,q <= cl/\i = .int .i64 q/\Own wr w.heap.size [wb.heap.size,w.heap.size] 104 2 u (L1 ++ (x.code.take q).flatMap defI).length (iH (L1 ++ (x.code.take q).flatMap defI))/\Below w.heap.size w wr/\Box wr w.heap.size #[.slice ap np cp,.int .i64 ar,.int .i64 ce,.slice (some ⟨bb,bo,none⟩) nb cb]/\Box wr wb.heap.size #[.slice bl k bt,.slice bj cl bm,.int .i64 x.term.op,.int .i64 x.term.val,.slice br x.term.to.length bO,.int .i64 x.term.n]) (fun _ i _=>cl - (intOf i).toNat)
  case atStart=>exact ⟨0,aJ _,rfl,by simp only [aS,List.flatMap_nil,bY];exact HO.out,HW.out,B1.out,B6.out⟩
  obtain ⟨q,hq,rfl,hO,hW,ak,bq⟩:=hrel
  clear ad ah ag aj am al
  have hsm:=(an.out 0).2 (q+1)
  have ai:=(an.out 0).2 q
  rw [<-cd.out] at hsm ai
  obtain ⟨L2,dd⟩ : ∃ L2,L2=L1 ++ (x.code.take q).flatMap defI:=⟨_,rfl⟩
  rw [<-dd] at hO ai
  obtain ⟨oa2,oc2,rfl⟩:=hO.form
  replace HO:=h! hO
  replace HW:=h! hW
  replace B1:=h! ak
  replace B6:=h! bq
  have cG:=h! dd
  clear hO hW ak bq dd
  generalize wr=w9 at *
  obtain ⟨ad,ah,ag⟩:=B1.out
  obtain ⟨aj,am,al⟩:=B6.out
  by_cases hltq:q < cl
  ·obtain ⟨rfl,bc⟩:=cr.out (by omega)
   obtain ⟨y,cj⟩ : ∃ y,x.code[q]? = some y:=⟨_,aC (by have:=dl.out;omega)⟩
   obtain ⟨aa,ca,hP⟩:=cw.out q y cj
   have da:=h! (gT defI x.code q y cj)
   obtain ⟨m0,m1,m2,m3,r1,r2,r3,r4⟩:=hP.below HW.out bc
   have HQ:Hid (L1 ++ (x.code.take (q+1)).flatMap defI=L2 ++ defI y):=h! (by rw [da.out, <-List.append_assoc, <-cG.out])
   rw [HQ.out,aI] at hsm
   obtain ⟨nL,ay⟩ : ∃ nL,nL=L2.length:=⟨_,rfl⟩
   rw [<-ay] at hsm ai HO ⊢
   have cg:=h! ay
   have cM:=pO y.op
   clear r1 r2 r3 r4 hP cj ay
   go_wp2_with fail
   refine (rJ y.op).mono ?_
   rintro e w10 ⟨rfl,rfl⟩
   have ck:Hid (defI y=if (shp0 y.op).result=0 then [] else [(y.id,(shp0 y.op).result)]):=h! rfl
   obtain ⟨res,ba⟩ : ∃ res,res=(shp0 y.op).result:=⟨_,rfl⟩
   rw [<-ba] at ck cM
   simp only [<-ba]
   clear ba
   have hr0:=cM.2.2.1
   clear cM
   cases hgt:decide (0 < res)
   ·have dj:=h! hgt
    go_wp2
    go_roundw
    case rel=>exact ⟨q+1,hltq,by go_num,by rw [HQ.out,ck.out,if_pos (by have:=dj.out;simp at this;omega),bY, <-cg.out];exact HO.out,HW.out,B1.out,B6.out⟩
    simp [intOf];omega
   have dj:=h! hgt
   have bh:Hid (defI y=[(y.id,res)]):=h! (by rw [ck.out,if_neg (by simp at hgt;omega)])
   rw [bh.out] at hsm
   simp only [bF,cN,bH] at hsm
   go_wp2_with (at_builtin;refine gF rfl _ _ 101 104 rfl aD2 rfl rfl (HO.out.alloc _) (Row.of_box (n:=1) (size:=2) (Box.new _ _ _) rfl (by omega)) (by simp [Value.oneCell']) (by unfold maxLen;omega) (by omega) (by simp;have:=HW.out.size;omega) (by intro b hb;simp at hb ⊢;omega) ?_;intro v2 w2 aq ae ao)
   clear ad ah ag aj am al
   replace B1:=h! (ae _ _ (by simp) (B1.out.alloc _))
   replace B6:=h! (ae _ _ (by simp) (B6.out.alloc _))
   replace HO:=h! aq
   replace HW:=h! ((HW.out.alloc (by have:=HW.out.size;omega) _).trans ao)
   clear aq ae ao
   obtain ⟨ad,ah,ag⟩:=B1.out
   obtain ⟨aj,am,al⟩:=B6.out
   go_roundw
   case rel=>exact ⟨q+1,hltq,by go_num,by rw [HQ.out,bh.out,jV,aI, <-cg.out];exact HO.out,HW.out,B1.out,B6.out⟩
   simp [intOf];omega
  obtain rfl:q=cl:=by omega
  rw [aH (by have:=dl.out;omega)] at cG
  have HQ:Hid (parT f.params ++ (f.blocks.take (j+1)).flatMap iX=L2):=h! (by rw [ej.out, <-List.append_assoc, <-HL.out,cG.out,cd.out,qA,bQ])
  clear hsm ai
  go_wp2
  go_roundw
  case rel=>exact ⟨j+1,hltb,by go_num,by rw [HQ.out];exact HO.out.less (by simp),HW.out,B1.out⟩
  simp [intOf];omega
 obtain rfl:j=nb:=by omega
 rw [aH (by have:=di.out;omega)] at HL
 rw [<-eg.out] at HL
 go_wp2
 go_ret
 exact ⟨_,rfl,by rw [<-HL.out];exact HO.out.row,HW.out⟩
structure UseD where
 id:Int
 typ:Int
 blk:Int
 pos:Int
 src:Int
 deriving DecidableEq,Inhabited
def jD (T:List UseD):List Value:=T.flatMap fun u=>[.int .i64 u.id,.int .i64 u.typ,.int .i64 u.blk,.int .i64 u.pos,.int .i64 u.src]
theorem kX (T:List UseD) (a b c d e:Int):jD (T ++ [⟨a,b,c,d,e⟩])=jD T ++ [.int .i64 a,.int .i64 b,.int .i64 c,.int .i64 d,.int .i64 e]:=by unfold jD;simp
def uxP (i:Nat) (p:PhiD):List UseD:=(p.vals.zip p.src).map fun vs=>⟨vs.1,p.typ,i, -1,vs.2⟩
def uxI (i:Nat) (xk:InstrD × Nat):List UseD:=(xk.1.args.zip (shp0 xk.1.op).args).map fun at_=>⟨at_.1,at_.2,i,xk.2,0⟩
def uxT (i:Nat) (b:BlockD):List UseD:=if b.term.op=2 then [⟨b.term.val,2,i,b.code.length,0⟩] else if b.term.op=3 then [⟨b.term.val,0,i,b.code.length,0⟩] else []
def uxB (bi:BlockD × Nat):List UseD:=bi.1.phis.flatMap (uxP bi.2) ++ bi.1.code.zipIdx.flatMap (uxI bi.2) ++ uxT bi.2 bi.1
def uxF (f:FuncD):List UseD:=f.blocks.zipIdx.flatMap uxB
structure Even (f:FuncD):Prop where
 phi:∀ b ∈ f.blocks, ∀ p ∈ b.phis,p.src.length=p.vals.length/\p.vals.length <= 512
 args:∀ b ∈ f.blocks, ∀ x ∈ b.code,x.args.length=(shp0 x.op).args.length
 size:lJ f <= 4096
 len:f.blocks.length <= 512
theorem aGT (n:Nat):∀ l:List Int,l.Nodup -> (∀ x ∈ l,0 <= x/\x < (n:Int)) -> l.length <= n:=by
 induction n with
 | zero =>
  intro l _ h
  cases l with
  | nil=>simp
  | cons x l=>have:=h x (by simp);omega
 | succ n ih =>
  intro l aa h
  by_cases hm:(n:Int) ∈ l
  ·have h1:=ih (l.erase (n:Int)) (aa.erase _) (fun x hx=>by
    have h2:=(aa.mem_erase_iff).1 hx
    have h3:=h x h2.2
    have h4:=h2.1
    omega)
   rw [List.length_erase_of_mem hm] at h1
   omega
  have h1:=ih l aa (fun x hx=>by
   have h3:=h x hx
   have h4:x ≠ n:=fun e=>hm (e ▸ hx)
   omega)
  omega
theorem jW {f:FuncD} (h:gW f=true):Even f:=by
 have h0:=h
 unfold gW jG at h0
 simp only [aL,decide_eq_true_eq,bB] at h0
 have aa:∀ b ∈ f.blocks, ∃ j,gI f.blocks.length f.arrays f.cells (b,j)=true:=fun b hb=>by
  obtain ⟨j,hj,rfl⟩:=dZ hb
  exact ⟨j,h0.2 (f.blocks[j],j) (by rw [bL];exact ⟨j,by simp [hj]⟩)⟩
 refine ⟨fun b hb p hp => ?_,fun b hb x hx => ?_,h0.1.1.2,h0.1.1.1.2⟩
 ·obtain ⟨j,h1⟩:=aa b hb
  unfold gI at h1
  simp only [aL,bB] at h1
  have h2:=h1.1.1.2 p hp
  unfold iS at h2
  simp only [aL,beq_iff_eq,bB,decide_eq_true_eq] at h2
  refine ⟨h2.1.1.2, ?_⟩
  have h3:=aGT f.blocks.length p.src h2.2 (fun x hx=>by have:=h2.1.2 x hx;unfold numB at this;simpa using this)
  have h4:=h0.1.1.1.2
  have h5:=h2.1.1.2
  omega
 obtain ⟨j,h1⟩:=aa b hb
 unfold gI at h1
 simp only [aL,bB] at h1
 have h2:=h1.1.2 x hx
 unfold gM at h2
 simp only [aL,beq_iff_eq] at h2
 exact h2.1.1.2
theorem zZ {α β : Type} (g : α -> List β) (c:Nat) (l:List α) (h:∀ x ∈ l,(g x).length <= c):(l.flatMap g).length <= c * l.length:=by
 induction l with
 | nil=>simp
 | cons x l ih =>
  have h1:=h x (by simp)
  have h2:=ih fun y hy=>h y (by simp [hy])
  rw [cD,aI,bF,Nat.mul_add]
  omega
theorem aFO {f:FuncD} (he:Even f) {b:BlockD} {j:Nat} (hb:b ∈ f.blocks):((uxB (b,j)).length:Int) <= 512 * hJ b:=by
 have h1:=zZ (uxP j) 512 b.phis (fun p hp=>by unfold uxP;rw [aW,eI];have:=he.phi b hb p hp;omega)
 have h2:=zZ (uxI j) 3 b.code.zipIdx (fun xk hx=>by
  unfold uxI;rw [aW,eI]
  have:=(pO xk.1.op).1;omega)
 have h3:(uxT j b).length <= 1:=by unfold uxT;split;simp;split <;> simp
 rw [eD] at h2
 unfold uxB hJ
 rw [aI,aI]
 simp only
 omega
theorem aAA {f:FuncD} (he:Even f):(uxF f).length <= 2097152:=by
 have aa:∀ (l:List (BlockD × Nat)),(∀ x ∈ l,x.1 ∈ f.blocks) -> ((l.flatMap uxB).length:Int) <= 512 * ((l.map (fun x=>hJ x.1)).sum):=by
  intro l
  induction l with
  | nil=>intro _;simp
  | cons x l ih =>
   intro h
   have h1:=aFO he (j:=x.2) (h x (by simp))
   have h2:=ih fun y hy=>h y (by simp [hy])
   rw [cD,aI,cY,List.sum_cons]
   have e:((uxB x).length:Int)=((uxB (x.1,x.2)).length:Int):=rfl
   omega
 have h1:=aa f.blocks.zipIdx (fun x hx=>by
  obtain ⟨i,hi,rfl⟩:=dZ hx
  simp)
 have h2:f.blocks.zipIdx.map (fun x=>hJ x.1)=f.blocks.map hJ:=by
  have:f.blocks.zipIdx.map (fun x=>hJ x.1)=(f.blocks.zipIdx.map (·.1)).map hJ:=by rw [cK];rfl
  rw [this,List.zipIdx_map_fst]
 rw [h2] at h1
 have h3:=he.size
 unfold lJ at h3
 unfold uxF
 omega
def UseD.pair (u:UseD):Int × Int:=(u.id,u.typ)
theorem vC {f:FuncD} (he:Even f):(uxF f).map UseD.pair=lD f:=by
 have hB:∀ b ∈ f.blocks, ∀ j,(uxB (b,j)).map UseD.pair=lX b:=by
  intro b hb j
  unfold uxB lX
  rw [aZ,aZ]
  congr 1
  ·congr 1
   ·simp only
    rw [List.map_flatMap]
    have:∀ l:List PhiD,(∀ p ∈ l,p.src.length=p.vals.length) -> l.flatMap (fun p=>(uxP j p).map UseD.pair)=l.flatMap oD:=by
     intro l
     induction l with
     | nil=>intro _;rfl
     | cons p l ih =>
      intro h
      rw [cD,cD,ih fun q hq=>h q (by simp [hq])]
      congr 1
      unfold uxP oD
      rw [cK]
      have h1:=h p (by simp)
      have h2:(p.vals.zip p.src).map Prod.fst=p.vals:=List.map_fst_zip (by omega)
      have h3:(p.vals.zip p.src).map (UseD.pair ∘ fun vs=>⟨vs.1,p.typ,j, -1,vs.2⟩)=((p.vals.zip p.src).map Prod.fst).map fun v=>(v,p.typ):=by rw [cK];rfl
      rw [h3,h2]
    exact this b.phis fun p hp=>(he.phi b hb p hp).1
   simp only
   rw [List.map_flatMap]
   have:∀ l:List (InstrD × Nat),l.flatMap (fun x=>(uxI j x).map UseD.pair)=(l.map (·.1)).flatMap pH:=by
    intro l
    induction l with
    | nil=>rfl
    | cons x l ih =>
     rw [cD,cY,cD,ih]
     congr 1
     unfold uxI pH
     rw [cK]
     have:(UseD.pair ∘ fun at_:Int × Int=>(⟨at_.1,at_.2,j,x.2,0⟩ : UseD))=id:=rfl
     rw [this,List.map_id]
   rw [this,List.zipIdx_map_fst]
  unfold uxT pI
  simp only
  split
  ·rfl
  split <;> rfl
 unfold uxF lD
 rw [List.map_flatMap]
 have:∀ l:List (BlockD × Nat),(∀ x ∈ l,x.1 ∈ f.blocks) -> l.flatMap (fun x=>(uxB x).map UseD.pair)=(l.map (·.1)).flatMap lX:=by
  intro l
  induction l with
  | nil=>intro _;rfl
  | cons x l ih =>
   intro h
   rw [cD,cY,cD,ih fun y hy=>h y (by simp [hy])]
   congr 1
   exact hB x.1 (h x (by simp)) x.2
 rw [this _ (fun x hx=>by obtain ⟨i,hi,rfl⟩:=dZ hx;simp),List.zipIdx_map_fst]
end Go.Proofs.YtagabiidbbhhmaaGreat
