/- Part 16. -/
import Derived.Test.YtagabiidbbhhmaaGreatEU15
namespace Go.Proofs.YtagabiidbbhhmaaGreat
set_option linter.all false
open Go.RowKit
theorem zH {w:World} {v:Value} {f:FuncD} (hv:fP w v f):Calls Tryz.prog 69 #[v] w fun e w'=>e = .returned (.bool (gW f))/\Below w.heap.size w w':=by
 cases h:jI f
 ·have h2:gW f=false:=by unfold gW;rw [h];rfl
  rw [h2];exact tF hv h
 have h2:gW f=(f.params.all kK && f.blocks.zipIdx.all (gA f.blocks.length f.arrays f.cells)):=by unfold gW;rw [h];rfl
 unfold jI at h
 simp only [aK,decide_eq_true_eq] at h
 obtain ⟨⟨⟨⟨⟨⟨⟨q1,q2⟩,q3⟩,q4⟩,q5⟩,q6⟩,q7⟩,q8⟩:=h
 obtain ⟨ap,cp,ab,cb,rfl,hp,ha,hc,hB⟩:=hv.form
 exact qN rfl rfl rfl rfl hp hB ha hc q1 ⟨q2,q3⟩ ⟨q4,q5⟩ ⟨q6,q7⟩ q8 h2
def defP (p:PhiD):List (Int × Int):=[(p.id,p.typ)]
theorem pN (b:BlockD):iU b=b.phis.flatMap defP ++ b.code.flatMap defI:=by
 unfold iU;rw [sC, <-sB];rfl
theorem iT {α β : Type} (g : α -> List β) (l:List α) (j:Nat):((l.take j).flatMap g).length <= (l.flatMap g).length:=by
 have h:=dE j l
 have h2:(l.flatMap g).length=((l.take j).flatMap g).length+((l.drop j).flatMap g).length:=by rw [<-List.length_append, <-List.flatMap_append,h]
 omega
def kH (T:List (Int × Int)):List Value:=T.flatMap fun p=>[.int .i64 p.1,.int .i64 p.2]
theorem mE (T:List (Int × Int)) (a b:Int):kH (T ++ [(a,b)])=kH T ++ [.int .i64 a,.int .i64 b]:=by unfold kH;simp
theorem aDV:Elem Tryz.prog 101 104 (.agg #[.int .i64 0,.int .i64 0]) 2 16:=mG Tryz.underlying101 (by kernel_rfl) rfl (by omega)
def aGE (T:List (Int × Int)) (w:World) (e:Ending) (w' : World):Prop := ∃ u,e = .returned u/\w'.ownsRow w.heap.size 104 2 u T.length (kH T)/\Below w.heap.size w w'
set_option maxHeartbeats 12800000 in
set_option maxRecDepth 100000 in
theorem oL {w:World} {v:Value} {f:FuncD} (hv:fP w v f) (hsm:(fC f).length <= 8192):Calls Tryz.prog 52 #[v] w (aGE (fC f) w):=by
 obtain ⟨ap,cp,ab,cb,rfl,hp,ha,hc,hB⟩:=hv.form
 obtain ⟨a1,c1,pb,po,ea,dz,hpm,cG,da⟩:=hp.parts
 cases ea
 obtain ⟨a2,c2,bb,bo,em,dy,hbm,eh,dc,dk⟩:=eW hB
 cases em
 have dq:Hid (∀ j x,f.blocks[j]? = some x -> (parT f.params ++ (f.blocks.take j).flatMap iU).length+(x.phis.flatMap defP).length+(x.code.flatMap defI).length <= 8192):=h! (fun j x hj=>by
  have h1:=iT iU f.blocks (j+1)
  rw [gM _ _ _ _ hj,aI,pN x,aI] at h1
  have h2:(fC f).length=(parT f.params).length+(f.blocks.flatMap iU).length:=by unfold fC nN;rw [aI]
  rw [aI]
  omega)
 have cx:f.params.length <= 8192:=by
  have h2:(fC f).length=(parT f.params).length+(f.blocks.flatMap iU).length:=by unfold fC nN;rw [aI]
  have h3:(parT f.params).length=f.params.length:=by unfold parT;simp
  omega
 have ec:Hid (fC f=parT f.params ++ f.blocks.flatMap iU):=h! rfl
 obtain ⟨np,bp⟩ : ∃ np,np=f.params.length:=⟨_,rfl⟩
 obtain ⟨nb,db⟩ : ∃ nb,nb=f.blocks.length:=⟨_,rfl⟩
 rw [<-bp] at dz cG da cx ⊢
 rw [<-db] at dy dc eh ⊢
 have de:=h! bp
 have dj:=h! db
 have eg:=h! cG
 have eb:=h! da
 have dx:=h! dc
 have ds:=h! dk
 clear hp ha hc hB hv hsm cG da dc dk bp db
 generalize f.arrays=ar at *
 generalize f.cells=ce at *
 go_enter Tryz.func52,Tryz.ntmps52
 go_upto_region 1 with (fail)
 have ay:=(Below.refl w.heap.size w).alloc (aC _) (.cells #[.slice ap np cp,.int .i64 ar,.int .i64 ce,.slice ab nb cb] 25)
 have HW:=h! ay
 clear ay
 have B1:=h! (Box.new w #[.slice ap np cp,.int .i64 ar,.int .i64 ce,.slice ab nb cb] 25)
 generalize w.alloc (.cells #[.slice ap np cp,.int .i64 ar,.int .i64 ce,.slice ab nb cb] 25)=wv at *
 obtain ⟨ad,ag,ah⟩:=B1.out
 go_wp2_with fail
 have HO:Hid (Own (wv.alloc (.cells #[] 104)) w.heap.size [w.heap.size] 104 2 (.slice (some ⟨wv.heap.size,0,none⟩) 0 0) 0 []):=h! (lV HW.out.size (by intro b hb;simp at hb;omega) 2)
 have cB:=(Below.refl wv.heap.size wv).alloc (aC _) (.cells #[] 104)
 clear ad ag ah
 replace B1:=h! (B1.out.later cB)
 replace HW:=h! (HW.out.trans (cB.mono HW.out.size))
 clear cB
 obtain ⟨ad,ag,ah⟩:=B1.out
 generalize wv.alloc _=wa at *
 go_loopw [3,4] (fun u i wr => ∃ j:Nat,j <= np/\i = .int .i64 j/\Own wr w.heap.size [w.heap.size] 104 2 u j (kH (parT (f.params.take j)))/\Below w.heap.size w wr/\Box wr w.heap.size #[.slice ap np cp,.int .i64 ar,.int .i64 ce,.slice ab nb cb]) (fun _ i _=>np - (intOf i).toNat)
 case atStart=>exact ⟨0,aH _,rfl,HO.out,HW.out,B1.out⟩
 obtain ⟨j,hj,rfl,hO,hW,ak⟩:=hrel
 clear ad ag ah
 obtain ⟨oa,oc,rfl⟩:=hO.form
 replace HO:=h! hO
 replace HW:=h! hW
 replace B1:=h! ak
 clear hO hW ak
 obtain ⟨ad,ag,ah⟩:=B1.out
 by_cases hlt:j < np
 ·obtain ⟨rfl,bc⟩:=eg.out (by omega)
  have hx0:=(HW.out.cell bc).trans (eb.out j hlt)
  have ax:=fI f.params j (by have:=de.out;omega)
  have ed:=h! (rX f.params j _ ax)
  clear ax
  generalize f.params.getD j 0=t at *
  go_wp2_with (at_builtin;refine gJ rfl _ _ 101 104 rfl aDV rfl rfl (HO.out.alloc _) (Row.of_box (n:=1) (size:=2) (Box.new _ _ _) rfl (by omega)) (by simp [Value.oneCell']) (by unfold maxLen;omega) (by omega) (by simp;have:=HW.out.size;omega) (by intro b hb;simp at hb ⊢;omega) ?_;intro v2 w2 ao ae aq)
  clear ad ag ah
  replace B1:=h! (ae _ _ (by simp) (B1.out.alloc _))
  replace HO:=h! ao
  replace HW:=h! ((HW.out.alloc (by have:=HW.out.size;omega) _).trans aq)
  clear ao ae aq
  obtain ⟨ad,ag,ah⟩:=B1.out
  go_roundw
  case rel=>exact ⟨j+1,hlt,by go_num,by rw [ed.out,mE];exact HO.out,HW.out,B1.out⟩
  simp [intOf];omega
 obtain rfl:j=np:=by omega
 rw [aJ (by have:=de.out;omega)] at HO
 obtain ⟨np,bp⟩ : ∃ np,np=j:=⟨_,rfl⟩
 obtain rfl:=bp
 have ei:Hid ((parT f.params).length=np):=h! (by unfold parT;simp [de.out])
 go_wp2_with fail
 go_loopw [3,5] (fun u i wr => ∃ j:Nat,j <= nb/\i = .int .i64 j/\Own wr w.heap.size [w.heap.size] 104 2 u (parT f.params ++ (f.blocks.take j).flatMap iU).length (kH (parT f.params ++ (f.blocks.take j).flatMap iU))/\Below w.heap.size w wr/\Box wr w.heap.size #[.slice ap np cp,.int .i64 ar,.int .i64 ce,.slice ab nb cb]) (fun _ i _=>nb - (intOf i).toNat)
 case atStart=>exact ⟨0,aH _,rfl,by simp only [aU,List.flatMap_nil,bY];rw [ei.out];exact HO.out,HW.out,B1.out⟩
 obtain ⟨j,hj,rfl,hO,hW,ak⟩:=hrel
 clear ad ag ah
 obtain ⟨L,hL⟩ : ∃ L,L=parT f.params ++ (f.blocks.take j).flatMap iU:=⟨_,rfl⟩
 rw [<-hL] at hO
 obtain ⟨oa,oc,rfl⟩:=hO.form
 replace HO:=h! hO
 replace HW:=h! hW
 replace B1:=h! ak
 have HL:=h! hL
 clear hO hW ak hL
 generalize wr=wb at *
 obtain ⟨ad,ag,ah⟩:=B1.out
 by_cases hltb:j < nb
 ·obtain ⟨rfl,dp⟩:=dx.out (by omega)
  obtain ⟨x,ax⟩ : ∃ x,f.blocks[j]? = some x:=⟨_,aB (by have:=dj.out;omega)⟩
  obtain ⟨bj,bO,bx,bt,bz,br,hC⟩:=ds.out j x ax
  have hsm:=dq.out j x ax
  have ee:=h! (gM iU f.blocks j x ax)
  have bm:=hC.phis
  have bd:=hC.code
  obtain ⟨k0,k1,k2,k3,k4,k5,q1,q2,q3,q4,q5,q6⟩:=hC.below HW.out dp
  clear q1 q2 q3 q4 q5 q6 hC ax
  rw [<-HL.out] at hsm
  obtain ⟨pl,ct⟩ : ∃ pl,pl=x.phis.length:=⟨_,rfl⟩
  obtain ⟨cl,co⟩ : ∃ cl,cl=x.code.length:=⟨_,rfl⟩
  obtain ⟨ac,capc,bcd,ocd,bs,dm,hcm,bk,df,dg⟩:=fS bd
  obtain ⟨apx,capp,bph,oph,be,dd,hppm,bw,az,bi⟩:=fH bm
  rw [<-ct] at be dd bw az k0
  rw [<-co] at bs dm bk df k1
  cases be
  cases bs
  have di:=h! ct
  have dl:=h! co
  have cq:=h! az
  have cF:=h! bi
  have cs:=h! df
  have cw:=h! dg
  clear ct co az bi df dg bm bd
  have an:Hid (∀ k,(L ++ (x.phis.take k).flatMap defP).length <= 8192 /\ ∀ k2,(L ++ x.phis.flatMap defP ++ (x.code.take k2).flatMap defI).length <= 8192):=h! (fun k=>⟨by
   have:=iT defP x.phis k
   rw [aI];omega,fun k2=>by
   have:=iT defI x.code k2
   rw [aI,aI];omega⟩)
  clear hsm
  replace HO:=h! (HO.out.more (b:=wb.heap.size) (aC _))
  go_upto_region 10 with (fail)
  have bq:wb.heap.size ≠ w.heap.size:=fun e=>by have:=ad;omega
  have nB1B6:w.heap.size ≠ wb.heap.size:=fun e=>bq e.symm
  clear ad ag ah
  have ay:=(Below.refl wb.heap.size wb).alloc (aC _) (.cells #[.slice bj pl bt,.slice bO cl bz,.int .i64 x.term.op,.int .i64 x.term.val,.slice bx x.term.to.length br,.int .i64 x.term.n] 63)
  replace B1:=h! (B1.out.later ay)
  replace HO:=h! (HO.out.later ay)
  replace HW:=h! (HW.out.trans (ay.mono HW.out.size))
  clear ay
  have B6:=h! (Box.new wb #[.slice bj pl bt,.slice bO cl bz,.int .i64 x.term.op,.int .i64 x.term.val,.slice bx x.term.to.length br,.int .i64 x.term.n] 63)
  generalize wb.alloc (.cells #[.slice bj pl bt,.slice bO cl bz,.int .i64 x.term.op,.int .i64 x.term.val,.slice bx x.term.to.length br,.int .i64 x.term.n] 63)=w6 at *
  obtain ⟨ad,ag,ah⟩:=B1.out
  obtain ⟨aj,al,am⟩:=B6.out
  clear k0 k1 k2 k3 k4 k5
  go_wp2_with fail
  go_loopw [3,7] (fun u i wr => ∃ k:Nat,k <= pl/\i = .int .i64 k/\Own wr w.heap.size [wb.heap.size,w.heap.size] 104 2 u (L ++ (x.phis.take k).flatMap defP).length (kH (L ++ (x.phis.take k).flatMap defP))/\Below w.heap.size w wr/\Box wr w.heap.size #[.slice ap np cp,.int .i64 ar,.int .i64 ce,.slice (some ⟨bb,bo,none⟩) nb cb]/\Box wr wb.heap.size #[.slice bj pl bt,.slice bO cl bz,.int .i64 x.term.op,.int .i64 x.term.val,.slice bx x.term.to.length br,.int .i64 x.term.n]) (fun _ i _=>pl - (intOf i).toNat)
  case atStart=>exact ⟨0,aH _,rfl,by simp only [aU,List.flatMap_nil,bY];exact HO.out,HW.out,B1.out,B6.out⟩
  obtain ⟨k,hk,rfl,hO,hW,ak,bf⟩:=hrel
  clear ad ag ah aj al am
  have hsm:=(an.out (k+1)).1
  have ai:=(an.out k).1
  obtain ⟨L1,cn⟩ : ∃ L1,L1=L ++ (x.phis.take k).flatMap defP:=⟨_,rfl⟩
  rw [<-cn] at hO ai
  obtain ⟨oa1,oc1,rfl⟩:=hO.form
  replace HO:=h! hO
  replace HW:=h! hW
  replace B1:=h! ak
  replace B6:=h! bf
  have cg:=h! cn
  clear hO hW ak bf cn
  generalize wr=w7 at *
  obtain ⟨ad,ag,ah⟩:=B1.out
  obtain ⟨aj,al,am⟩:=B6.out
  by_cases hlt:k < pl
  ·obtain ⟨rfl,bc⟩:=cq.out (by omega)
   obtain ⟨p,cL⟩ : ∃ p,x.phis[k]? = some p:=⟨_,aB (by have:=di.out;omega)⟩
   obtain ⟨af,av,cf,cv,hP⟩:=cF.out k p cL
   have cz:=h! (gM defP x.phis k p cL)
   have HP:=h! hP
   have HQ:Hid (L ++ (x.phis.take (k+1)).flatMap defP=L1 ++ [(p.id,p.typ)]):=h! (by rw [cz.out, <-List.append_assoc, <-cg.out];rfl)
   rw [HQ.out,aI] at hsm
   obtain ⟨nL,ba⟩ : ∃ nL,nL=L1.length:=⟨_,rfl⟩
   rw [<-ba] at hsm ai HO ⊢
   have ch:=h! ba
   simp only [bE,cI,bH] at hsm
   clear hP cL ba
   go_upto_region 13 with (fail)
   refine wp_region_grow 15 (fun kz=>match kz with | 14=>.made w7.heap.size (fun b=>.slice (some ⟨b,0,none⟩) 1 1) #[.int .i64 p.id,.int .i64 p.typ] | _=>.plain) (by kernel_rfl) (by kernel_rfl) ?_ (fun ν => ?_)
   ·(intro k;(try dsimp only);split <;> first | exact True.intro | (intro u w1 w2 hu hb;exact hu.below hb))
   simp only [aP,aU,aS,aX]
   iterate 14 (refine Grow.val (v := ?_) rfl rfl (fun wg hbg hdg => ?_) ?_;rotate_left;(focus ((obtain ⟨dv,ef,dw⟩:=B1.out.later hbg);(obtain ⟨ej,dr,dt⟩:=B6.out.later hbg);(obtain ⟨m0,m1,m2,m3,r1,r2,r3,r4⟩:=HP.out.below (HW.out.trans (hbg.mono HW.out.size)) bc;clear r1 r2 r3 r4);clear hbg hdg;first | (go_simp;done) | (go_simp;with_reducible rfl)));simp only [Act.put,aA,aE,aF])
   refine Grow.made (T := ?_) rfl rfl (fun wg hbg hdg => ?_) ?_
   rotate_left
   focus ((obtain ⟨dv,ef,dw⟩:=B1.out.later hbg);(obtain ⟨ej,dr,dt⟩:=B6.out.later hbg);(obtain ⟨m0,m1,m2,m3,r1,r2,r3,r4⟩:=HP.out.below (HW.out.trans (hbg.mono HW.out.size)) bc;clear r1 r2 r3 r4);clear hbg hdg;first | (go_simp;done) | (go_simp;with_reducible rfl))
   simp only [Act.put,Known.val,aA,aE,aF]
   intro wg hb hf dn
   obtain ⟨cd,bn,cc,bg⟩:=hf 14 (by omega)
   have bl:cd ≠ w.heap.size:=fun e=>by have:=ad;omega
   have nB1BN:w.heap.size ≠ cd:=fun e=>bl e.symm
   have bv:cd ≠ wb.heap.size:=fun e=>by have:=aj;omega
   have nB6BN:wb.heap.size ≠ cd:=fun e=>bv e.symm
   simp only [bn]
   clear bn
   clear dn
   have gBN:=bA HW.out.size cc
   clear cc
   clear ad ag ah aj al am
   replace B1:=h! (B1.out.later hb)
   replace B6:=h! (B6.out.later hb)
   replace HO:=h! (HO.out.later hb)
   replace HW:=h! (HW.out.trans (hb.mono HW.out.size))
   clear hb
   have BN:=h! bg
   clear bg
   obtain ⟨ad,ag,ah⟩:=B1.out
   obtain ⟨aj,al,am⟩:=B6.out
   obtain ⟨cm,en,ek⟩:=BN.out
   clear hf
   clear ad ag ah aj al am cm en ek
   have cm:=BN.out.lt
   have ad:=B1.out.lt
   have aj:=B6.out.lt
   refine gJ rfl _ _ 101 104 rfl aDV rfl rfl HO.out (Row.of_box (n:=1) (size:=2) BN.out rfl (by omega)) (by simp [Value.oneCell']) (by unfold maxLen;omega) (by omega) (by have:=HW.out.size;omega) (by intro b hb;simp at hb ⊢;omega) ?_
   intro v2 w2 ao ae aq
   clear cm
   clear ad
   clear aj
   replace B1:=h! (ae _ _ (by simp) B1.out)
   replace B6:=h! (ae _ _ (by simp) B6.out)
   replace HO:=h! ao
   replace HW:=h! (HW.out.trans aq)
   clear ao ae aq BN
   obtain ⟨ad,ag,ah⟩:=B1.out
   obtain ⟨aj,al,am⟩:=B6.out
   go_wp2
   go_roundw
   case rel=>exact ⟨k+1,hlt,by go_num,by rw [HQ.out,mE,aI, <-ch.out];exact HO.out,HW.out,B1.out,B6.out⟩
   simp [intOf];omega
  obtain rfl:k=pl:=by omega
  rw [aJ (by have:=di.out;omega)] at cg
  clear hsm ai
  go_wp2_with fail
  go_loopw [3,8] (fun u i wr => ∃ q:Nat,q <= cl/\i = .int .i64 q/\Own wr w.heap.size [wb.heap.size,w.heap.size] 104 2 u (L1 ++ (x.code.take q).flatMap defI).length (kH (L1 ++ (x.code.take q).flatMap defI))/\Below w.heap.size w wr/\Box wr w.heap.size #[.slice ap np cp,.int .i64 ar,.int .i64 ce,.slice (some ⟨bb,bo,none⟩) nb cb]/\Box wr wb.heap.size #[.slice bj k bt,.slice bO cl bz,.int .i64 x.term.op,.int .i64 x.term.val,.slice bx x.term.to.length br,.int .i64 x.term.n]) (fun _ i _=>cl - (intOf i).toNat)
  case atStart=>exact ⟨0,aH _,rfl,by simp only [aU,List.flatMap_nil,bY];exact HO.out,HW.out,B1.out,B6.out⟩
  obtain ⟨q,hq,rfl,hO,hW,ak,bf⟩:=hrel
  clear ad ag ah aj al am
  have hsm:=(an.out 0).2 (q+1)
  have ai:=(an.out 0).2 q
  rw [<-cg.out] at hsm ai
  obtain ⟨L2,cy⟩ : ∃ L2,L2=L1 ++ (x.code.take q).flatMap defI:=⟨_,rfl⟩
  rw [<-cy] at hO ai
  obtain ⟨oa2,oc2,rfl⟩:=hO.form
  replace HO:=h! hO
  replace HW:=h! hW
  replace B1:=h! ak
  replace B6:=h! bf
  have ck:=h! cy
  clear hO hW ak bf cy
  generalize wr=w9 at *
  obtain ⟨ad,ag,ah⟩:=B1.out
  obtain ⟨aj,al,am⟩:=B6.out
  by_cases hltq:q < cl
  ·obtain ⟨rfl,bc⟩:=cs.out (by omega)
   obtain ⟨y,ci⟩ : ∃ y,x.code[q]? = some y:=⟨_,aB (by have:=dl.out;omega)⟩
   obtain ⟨aa,ca,hP⟩:=cw.out q y ci
   have cM:=h! (gM defI x.code q y ci)
   obtain ⟨m0,m1,m2,m3,r1,r2,r3,r4⟩:=hP.below HW.out bc
   have HQ:Hid (L1 ++ (x.code.take (q+1)).flatMap defI=L2 ++ defI y):=h! (by rw [cM.out, <-List.append_assoc, <-ck.out])
   rw [HQ.out,aI] at hsm
   obtain ⟨nL,ba⟩ : ∃ nL,nL=L2.length:=⟨_,rfl⟩
   rw [<-ba] at hsm ai HO ⊢
   have ch:=h! ba
   have cj:=oF y.op
   clear r1 r2 r3 r4 hP ci ba
   go_wp2_with fail
   refine (pY y.op).mono ?_
   rintro e w10 ⟨rfl,rfl⟩
   have cr:Hid (defI y=if (shp0 y.op).result=0 then [] else [(y.id,(shp0 y.op).result)]):=h! rfl
   obtain ⟨res,aw⟩ : ∃ res,res=(shp0 y.op).result:=⟨_,rfl⟩
   rw [<-aw] at cr cj
   simp only [<-aw]
   clear aw
   have hr0:=cj.2.2.1
   clear cj
   cases hgt:decide (0 < res)
   ·have dh:=h! hgt
    go_wp2
    go_roundw
    case rel=>exact ⟨q+1,hltq,by go_num,by rw [HQ.out,cr.out,if_pos (by have:=dh.out;simp at this;omega),bY, <-ch.out];exact HO.out,HW.out,B1.out,B6.out⟩
    simp [intOf];omega
   have dh:=h! hgt
   have bh:Hid (defI y=[(y.id,res)]):=h! (by rw [cr.out,if_neg (by simp at hgt;omega)])
   rw [bh.out] at hsm
   simp only [bE,cI,bH] at hsm
   go_wp2_with (at_builtin;refine gJ rfl _ _ 101 104 rfl aDV rfl rfl (HO.out.alloc _) (Row.of_box (n:=1) (size:=2) (Box.new _ _ _) rfl (by omega)) (by simp [Value.oneCell']) (by unfold maxLen;omega) (by omega) (by simp;have:=HW.out.size;omega) (by intro b hb;simp at hb ⊢;omega) ?_;intro v2 w2 ao ae aq)
   clear ad ag ah aj al am
   replace B1:=h! (ae _ _ (by simp) (B1.out.alloc _))
   replace B6:=h! (ae _ _ (by simp) (B6.out.alloc _))
   replace HO:=h! ao
   replace HW:=h! ((HW.out.alloc (by have:=HW.out.size;omega) _).trans aq)
   clear ao ae aq
   obtain ⟨ad,ag,ah⟩:=B1.out
   obtain ⟨aj,al,am⟩:=B6.out
   go_roundw
   case rel=>exact ⟨q+1,hltq,by go_num,by rw [HQ.out,bh.out,mE,aI, <-ch.out];exact HO.out,HW.out,B1.out,B6.out⟩
   simp [intOf];omega
  obtain rfl:q=cl:=by omega
  rw [aJ (by have:=dl.out;omega)] at ck
  have HQ:Hid (parT f.params ++ (f.blocks.take (j+1)).flatMap iU=L2):=h! (by rw [ee.out, <-List.append_assoc, <-HL.out,ck.out,cg.out,pN,bN])
  clear hsm ai
  go_wp2
  go_roundw
  case rel=>exact ⟨j+1,hltb,by go_num,by rw [HQ.out];exact HO.out.less (by simp),HW.out,B1.out⟩
  simp [intOf];omega
 obtain rfl:j=nb:=by omega
 rw [aJ (by have:=dj.out;omega)] at HL
 rw [<-ec.out] at HL
 go_wp2
 go_ret
 exact ⟨_,rfl,by rw [<-HL.out];exact HO.out.row,HW.out⟩
structure UseD where
 id:Int
 typ:Int
 blk:Int
 pos:Int
 src:Int
 deriving DecidableEq,Inhabited
def iY (T:List UseD):List Value:=T.flatMap fun u=>[.int .i64 u.id,.int .i64 u.typ,.int .i64 u.blk,.int .i64 u.pos,.int .i64 u.src]
theorem kQ (T:List UseD) (a b c d e:Int):iY (T ++ [⟨a,b,c,d,e⟩])=iY T ++ [.int .i64 a,.int .i64 b,.int .i64 c,.int .i64 d,.int .i64 e]:=by unfold iY;simp
def uxP (i:Nat) (p:PhiD):List UseD:=(p.vals.zip p.src).map fun vs=>⟨vs.1,p.typ,i, -1,vs.2⟩
def uxI (i:Nat) (xk:InstrD × Nat):List UseD:=(xk.1.args.zip (shp0 xk.1.op).args).map fun at_=>⟨at_.1,at_.2,i,xk.2,0⟩
def uxT (i:Nat) (b:BlockD):List UseD:=if b.term.op=2 then [⟨b.term.val,2,i,b.code.length,0⟩] else if b.term.op=3 then [⟨b.term.val,0,i,b.code.length,0⟩] else []
def uxB (bi:BlockD × Nat):List UseD:=bi.1.phis.flatMap (uxP bi.2) ++ bi.1.code.zipIdx.flatMap (uxI bi.2) ++ uxT bi.2 bi.1
def uxF (f:FuncD):List UseD:=f.blocks.zipIdx.flatMap uxB
structure Even (f:FuncD):Prop where
 phi:∀ b ∈ f.blocks, ∀ p ∈ b.phis,p.src.length=p.vals.length/\p.vals.length <= 512
 args:∀ b ∈ f.blocks, ∀ x ∈ b.code,x.args.length=(shp0 x.op).args.length
 size:kY f <= 4096
 len:f.blocks.length <= 512
theorem aGF (n:Nat):∀ l:List Int,l.Nodup -> (∀ x ∈ l,0 <= x/\x < (n:Int)) -> l.length <= n:=by
 induction n with
 | zero =>
  intro l _ h
  cases l with
  | nil=>simp
  | cons x l=>have:=h x (by simp);omega
 | succ n ih =>
  intro l aa h
  by_cases hm:(n:Int) ∈ l
  ·have h1:=ih (l.erase (n:Int)) (aa.erase _) (fun x hx=>by
    have h2:=(aa.mem_erase_iff).1 hx
    have h3:=h x h2.2
    have h4:=h2.1
    omega)
   rw [List.length_erase_of_mem hm] at h1
   omega
  have h1:=ih l aa (fun x hx=>by
   have h3:=h x hx
   have h4:x ≠ n:=fun e=>hm (e ▸ hx)
   omega)
  omega
theorem jP {f:FuncD} (h:gW f=true):Even f:=by
 have h0:=h
 unfold gW jI at h0
 simp only [aK,decide_eq_true_eq,aZ] at h0
 have aa:∀ b ∈ f.blocks, ∃ j,gA f.blocks.length f.arrays f.cells (b,j)=true:=fun b hb=>by
  obtain ⟨j,hj,rfl⟩:=dU hb
  exact ⟨j,h0.2 (f.blocks[j],j) (by rw [bJ];exact ⟨j,by simp [hj]⟩)⟩
 refine ⟨fun b hb p hp => ?_,fun b hb x hx => ?_,h0.1.1.2,h0.1.1.1.2⟩
 ·obtain ⟨j,h1⟩:=aa b hb
  unfold gA at h1
  simp only [aK,aZ] at h1
  have h2:=h1.1.1.2 p hp
  unfold iQ at h2
  simp only [aK,beq_iff_eq,aZ,decide_eq_true_eq] at h2
  refine ⟨h2.1.1.2, ?_⟩
  have h3:=aGF f.blocks.length p.src h2.2 (fun x hx=>by have:=h2.1.2 x hx;unfold numB at this;simpa using this)
  have h4:=h0.1.1.1.2
  have h5:=h2.1.1.2
  omega
 obtain ⟨j,h1⟩:=aa b hb
 unfold gA at h1
 simp only [aK,aZ] at h1
 have h2:=h1.1.2 x hx
 unfold fZ at h2
 simp only [aK,beq_iff_eq] at h2
 exact h2.1.1.2
theorem zI {α β : Type} (g : α -> List β) (c:Nat) (l:List α) (h:∀ x ∈ l,(g x).length <= c):(l.flatMap g).length <= c * l.length:=by
 induction l with
 | nil=>simp
 | cons x l ih =>
  have h1:=h x (by simp)
  have h2:=ih fun y hy=>h y (by simp [hy])
  rw [cC,aI,bE,Nat.mul_add]
  omega
theorem aFE {f:FuncD} (he:Even f) {b:BlockD} {j:Nat} (hb:b ∈ f.blocks):((uxB (b,j)).length:Int) <= 512 * gU b:=by
 have h1:=zI (uxP j) 512 b.phis (fun p hp=>by unfold uxP;rw [bI,eB];have:=he.phi b hb p hp;omega)
 have h2:=zI (uxI j) 3 b.code.zipIdx (fun xk hx=>by
  unfold uxI;rw [bI,eB]
  have:=(oF xk.1.op).1;omega)
 have h3:(uxT j b).length <= 1:=by unfold uxT;split;simp;split <;> simp
 rw [dY] at h2
 unfold uxB gU
 rw [aI,aI]
 simp only
 omega
theorem zJ {f:FuncD} (he:Even f):(uxF f).length <= 2097152:=by
 have aa:∀ (l:List (BlockD × Nat)),(∀ x ∈ l,x.1 ∈ f.blocks) -> ((l.flatMap uxB).length:Int) <= 512 * ((l.map (fun x=>gU x.1)).sum):=by
  intro l
  induction l with
  | nil=>intro _;simp
  | cons x l ih =>
   intro h
   have h1:=aFE he (j:=x.2) (h x (by simp))
   have h2:=ih fun y hy=>h y (by simp [hy])
   rw [cC,aI,cZ,List.sum_cons]
   have e:((uxB x).length:Int)=((uxB (x.1,x.2)).length:Int):=rfl
   omega
 have h1:=aa f.blocks.zipIdx (fun x hx=>by
  obtain ⟨i,hi,rfl⟩:=dU hx
  simp)
 have h2:f.blocks.zipIdx.map (fun x=>gU x.1)=f.blocks.map gU:=by
  have:f.blocks.zipIdx.map (fun x=>gU x.1)=(f.blocks.zipIdx.map (·.1)).map gU:=by rw [cO];rfl
  rw [this,List.zipIdx_map_fst]
 rw [h2] at h1
 have h3:=he.size
 unfold kY at h3
 unfold uxF
 omega
def UseD.pair (u:UseD):Int × Int:=(u.id,u.typ)
theorem uJ {f:FuncD} (he:Even f):(uxF f).map UseD.pair=nR f:=by
 have hB:∀ b ∈ f.blocks, ∀ j,(uxB (b,j)).map UseD.pair=qX b:=by
  intro b hb j
  unfold uxB qX
  rw [bD,bD]
  congr 1
  ·congr 1
   ·simp only
    rw [List.map_flatMap]
    have:∀ l:List PhiD,(∀ p ∈ l,p.src.length=p.vals.length) -> l.flatMap (fun p=>(uxP j p).map UseD.pair)=l.flatMap oY:=by
     intro l
     induction l with
     | nil=>intro _;rfl
     | cons p l ih =>
      intro h
      rw [cC,cC,ih fun q hq=>h q (by simp [hq])]
      congr 1
      unfold uxP oY
      rw [cO]
      have h1:=h p (by simp)
      have h2:(p.vals.zip p.src).map Prod.fst=p.vals:=List.map_fst_zip (by omega)
      have h3:(p.vals.zip p.src).map (UseD.pair ∘ fun vs=>⟨vs.1,p.typ,j, -1,vs.2⟩)=((p.vals.zip p.src).map Prod.fst).map fun v=>(v,p.typ):=by rw [cO];rfl
      rw [h3,h2]
    exact this b.phis fun p hp=>(he.phi b hb p hp).1
   simp only
   rw [List.map_flatMap]
   have:∀ l:List (InstrD × Nat),l.flatMap (fun x=>(uxI j x).map UseD.pair)=(l.map (·.1)).flatMap pH:=by
    intro l
    induction l with
    | nil=>rfl
    | cons x l ih =>
     rw [cC,cZ,cC,ih]
     congr 1
     unfold uxI pH
     rw [cO]
     have:(UseD.pair ∘ fun at_:Int × Int=>(⟨at_.1,at_.2,j,x.2,0⟩ : UseD))=id:=rfl
     rw [this,List.map_id]
   rw [this,List.zipIdx_map_fst]
  unfold uxT qW
  simp only
  split
  ·rfl
  split <;> rfl
 unfold uxF nR
 rw [List.map_flatMap]
 have:∀ l:List (BlockD × Nat),(∀ x ∈ l,x.1 ∈ f.blocks) -> l.flatMap (fun x=>(uxB x).map UseD.pair)=(l.map (·.1)).flatMap qX:=by
  intro l
  induction l with
  | nil=>intro _;rfl
  | cons x l ih =>
   intro h
   rw [cC,cZ,cC,ih fun y hy=>h y (by simp [hy])]
   congr 1
   exact hB x.1 (h x (by simp)) x.2
 rw [this _ (fun x hx=>by obtain ⟨i,hi,rfl⟩:=dU hx;simp),List.zipIdx_map_fst]
end Go.Proofs.YtagabiidbbhhmaaGreat
