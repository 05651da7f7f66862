/- Part 11. -/
import Derived.Test.YtcmflfkpeodicaaGreatIRA10
namespace Go.Proofs.YtcmflfkpeodicaaGreat
set_option linter.all false
open Go.RowKit
theorem aA2 {w wc:World} {f:FuncD} {bc bm:Nat} {ap ab:Option Addr} {cp cb:Nat} (hW:Below w.heap.size w wc) (hm0:w.heap.size <= bm) (hne:bc ≠ bm)
  (hb:Box wc bc (chk (.slice ap f.params.length cp) (.slice ab f.blocks.length cb) f.arrays f.cells bm)) (hm:IMap wc bm []) (hp:Ints w (.slice ap f.params.length cp) f.params) (hB:eQ gF 6 w (.slice ab f.blocks.length cb) f.blocks) :
  Calls Tryz.prog 126 #[.pointer (some ⟨bc,0,none⟩)] wc (iA (sI f) bm wc):=by
 cases h:iH f
 ·exact (aBY hb rfl rfl (hB.below gF.lasting hW) h).mono fun e w' ⟨he,hw⟩=>by
   subst he
   exact iA.no (rM h) (Turn.of_below hw _)
 ·have h2:=h
  unfold iH at h2
  simp only [aN,decide_eq_true_eq] at h2
  obtain ⟨⟨⟨⟨⟨⟨⟨q1,q2⟩,q3⟩,q4⟩,q5⟩,q6⟩,q7⟩,q8⟩:=h2
  exact wY hW hm0 hne hb hm rfl rfl hp hB q1 ⟨q2,q3⟩ ⟨q4,q5⟩ ⟨q6,q7⟩ q8 (wT h)
theorem New.turn {T:TypeId} {w w1 w2:World} {u:Value} {xs:List Int} {bs:List Nat} (h:New T w w1 u xs) (ht:Turn bs w1 w2) (hb:∀ b ∈ bs,b < w.heap.size):New T w w2 u xs :=
 h.keep fun g hg=>ht.block g (h.fresh g hg).2 fun hm=>by have:=hb g hm;have:=(h.fresh g hg).1;omega
theorem gH {α β : Type} (g : α -> List β) (l:List α) (k:Nat) (x : α) (h:l[k]? = some x):(l.take (k+1)).flatMap g=(l.take k).flatMap g ++ g x:=by
 rw [bU,h];simp
theorem eP {α : Type} (l:List α) (k:Nat) (x : α) (h:l[k]? = some x):l.take (k+1)=l.take k ++ [x]:=by
 rw [bU,h];rfl
theorem eX (l:List Int) (j:Nat) (h:j < l.length):l[j]? = some (l.getD j 0):=by
 rw [aH,aB h];rfl
structure Goes (I:List (Int × Int) -> World -> Prop) (us:List (Int × Int)) (W:World):Prop where
 now:I us W
 grow:∀ W',Below W.heap.size W W' -> I us W'
theorem Goes.later {I:List (Int × Int) -> World -> Prop} {us:List (Int × Int)} {W W' : World} (h:Goes I us W) (hb:Below W.heap.size W W'):Goes I us W':=⟨h.grow W' hb,fun W'' hb'=>h.grow W'' (hb.trans (hb'.mono hb.size))⟩
theorem Goes.alloc {I:List (Int × Int) -> World -> Prop} {us:List (Int × Int)} {W:World} (h:Goes I us W) (o:Obj):Goes I us (W.alloc o):=h.later ((Below.refl _ _).alloc (aF _) o)
def aII (k:FuncId) (cap:Array Value) (bs:List Nat) (wc:World) (I:List (Int × Int) -> World -> Prop):Prop :=
 ∀ us u W,I us W -> Turn bs wc W -> Calls Tryz.prog k (#[.int .i64 u.1,.int .i64 u.2] ++ cap) W fun e W'=>e = .returned (.tuple #[])/\I (us ++ [u]) W' /\ Turn bs W W'
def aHB (us:List (Int × Int)) (bs:List Nat) (I:List (Int × Int) -> World -> Prop) (wc:World) (e:Ending) (w' : World):Prop:=e = .returned (.tuple #[])/\I us w' /\ Turn bs wc w'
set_option maxHeartbeats 12800000 in
set_option maxRecDepth 100000 in
theorem aHC {w wc:World} {f:FuncD} {ap ab:Option Addr} {np cp nb cb:Nat} (hW:Below w.heap.size w wc) (hnb:nb=f.blocks.length) (hB:eQ gF 6 w (.slice ab nb cb) f.blocks)
  (hargs:∀ b ∈ f.blocks, ∀ x ∈ b.code,x.args.length <= (shp0 x.op).args.length) (k:FuncId) (cap:Array Value) (eg:Enters Tryz.prog k) (bs:List Nat) (hbs:∀ b ∈ bs,w.heap.size <= b/\b < wc.heap.size) (I:List (Int × Int) -> World -> Prop)
  (hI:I [] wc) (hgrow:∀ us W W',I us W -> Below W.heap.size W W' -> I us W') (hstep:aII k cap bs wc I) :
  Calls Tryz.prog 127 #[.agg #[.slice ap np cp,.int .i64 f.arrays,.int .i64 f.cells,.slice ab nb cb],.func (.func k) #[] cap] wc (aHB (jD f) bs I wc):=by
 have HNB:=h! hnb
 have HI:Hid (Goes I [] wc):=h! ⟨hI,fun W' hb=>hgrow _ _ _ hI hb⟩
 have HS:Hid (∀ us u W,Goes I us W -> Turn bs wc W -> Calls Tryz.prog k (#[.int .i64 u.1,.int .i64 u.2] ++ cap) W fun e W'=>e = .returned (.tuple #[])/\Goes I (us ++ [u]) W' /\ Turn bs W W') :=
  h! fun us u W h1 h2=>(hstep us u W h1.now h2).mono fun e W' ⟨he,h3,h4⟩=>⟨he,⟨h3,fun W'' hb=>hgrow _ _ _ h3 hb⟩,h4⟩
 have HAR:=h! hargs
 have HKEEP:Hid (∀ wr,Turn bs wc wr -> Below w.heap.size w wr):=h! (fun wr ht=>hW.trans (ht.below hW.size fun x hx=>(hbs x hx).1))
 have HBS:Hid (∀ b,wc.heap.size <= b -> b ∉ bs):=h! (fun b hb hm=>by have:=(hbs b hm).2;omega)
 have HBL:Hid (∀ b ∈ bs,b < wc.heap.size):=h! (fun b hb=>(hbs b hb).2)
 obtain ⟨a2,c2,bb,bo,hbe,hbc,hbm,hbl,hba,hbx⟩:=eW hB
 rw [<-hnb] at hbe hbc hba hbl
 cases hbe
 have HBA:=h! hba
 have HBX:=h! hbx
 have HT:=h! (Turn.refl bs wc)
 have HW:=h! hW
 clear hW hnb hB hargs hbs hI hgrow hstep hba hbx
 have eg1:∀ (args:Array Value) (w:World),(callFunc k args).run Tryz.prog w = .ok (.enter k args) w:=eg
 generalize f.arrays=ar at *
 generalize f.cells=ce at *
 go_enter Tryz.func127,Tryz.ntmps127
 go_upto_region 1 with (fail)
 have hA_:=(Below.refl wc.heap.size wc).alloc (aF _) (.cells #[.slice ap np cp,.int .i64 ar,.int .i64 ce,.slice ab nb cb] 25)
 replace HI:=h! (HI.out.later hA_)
 replace HT:=h! (HT.out.later hA_)
 replace HW:=h! (HW.out.trans (hA_.mono HW.out.size))
 clear hA_
 have B2:=h! (Box.new wc #[.slice ap np cp,.int .i64 ar,.int .i64 ce,.slice ab nb cb] 25)
 generalize wc.alloc (.cells #[.slice ap np cp,.int .i64 ar,.int .i64 ce,.slice ab nb cb] 25)=w1 at *
 obtain ⟨lB2,cB2,fB2⟩:=B2.out
 go_wp2_with fail
 clear lB2 cB2 fB2 B2
 go_loopw [19] (fun i wr => ∃ j:Nat,j <= nb/\i = .int .i64 j/\Goes I ((f.blocks.take j).flatMap mZ) wr/\Turn bs wc wr) (fun i _=>nb - (intOf i).toNat)
 case atStart=>exact ⟨0,aP _,rfl,HI.out,HT.out⟩
 case round =>
  obtain ⟨j,hj,rfl,hI,hT⟩:=hrel
  replace HI:=h! hI
  replace HT:=h! hT
  replace HW:=h! (HKEEP.out _ hT)
  clear hI hT
  generalize wr=wb at *
  by_cases hltb:j < nb
  ·obtain ⟨rfl,hbw⟩:=HBA.out (by omega)
   obtain ⟨x,hjx⟩ : ∃ x,f.blocks[j]? = some x:=⟨_,aB (by have:=HNB.out;omega)⟩
   obtain ⟨api,aii,ati,cpi,cii,cti,hC⟩:=HBX.out j x hjx
   have HFL:=h! (gH mZ f.blocks j x hjx)
   have HARX:=h! (HAR.out x (aG hjx))
   have hB1:=hC.phis
   have hB2:=hC.code
   obtain ⟨pl,hpl⟩ : ∃ pl,pl=x.phis.length:=⟨_,rfl⟩
   obtain ⟨cl,hcl⟩ : ∃ cl,cl=x.code.length:=⟨_,rfl⟩
   obtain ⟨ac,capc,bcd,ocd,hce1,hcc,hcm,hcl16,hca,hcx⟩:=gC hB2
   obtain ⟨apx,capp,bph,oph,hpe1,hppc,hppm,hpl16,hpa2,hpx2⟩:=fV hB1
   obtain ⟨k0,k1,k2,k3,k4,k5,q1,q2,q3,q4,q5,q6⟩:=hC.below HW.out hbw
   rw [<-hpl] at hpe1 hppc hpl16 hpa2 k0
   rw [<-hcl] at hce1 hcc hcl16 hca k1
   cases hpe1
   cases hce1
   have HPL:=h! hpl
   have HCL:=h! hcl
   have HPA2:=h! hpa2
   have HPX2:=h! hpx2
   have HCA2:=h! hca
   have HCX2:=h! hcx
   have HS5:=h! (HBS.out _ HT.out.size)
   clear hpl hcl hpa2 hpx2 hca hcx q1 q2 q3 q4 q5 q6 hC hB1 hB2 hjx
   obtain ⟨U,hU⟩ : ∃ U,U=(f.blocks.take j).flatMap mZ:=⟨_,rfl⟩
   rw [<-hU] at HI
   have HU:=h! hU
   clear hU
   go_upto_region 4 with (fail)
   have hA_:=(Below.refl wb.heap.size wb).alloc (aF _) (.cells #[.slice api pl cpi,.slice aii cl cii,.int .i64 x.term.op,.int .i64 x.term.val,.slice ati x.term.to.length cti,.int .i64 x.term.n] 50)
   replace HI:=h! (HI.out.later hA_)
   replace HT:=h! (HT.out.later hA_)
   replace HW:=h! (HW.out.trans (hA_.mono HW.out.size))
   clear hA_
   have B5:=h! (Box.new wb #[.slice api pl cpi,.slice aii cl cii,.int .i64 x.term.op,.int .i64 x.term.val,.slice ati x.term.to.length cti,.int .i64 x.term.n] 50)
   generalize wb.alloc (.cells #[.slice api pl cpi,.slice aii cl cii,.int .i64 x.term.op,.int .i64 x.term.val,.slice ati x.term.to.length cti,.int .i64 x.term.n] 50)=w5 at *
   obtain ⟨lB5,cB5,fB5⟩:=B5.out
   clear k0 k1 k2 k3 k4 k5
   go_wp2_with fail
   go_loopw [26] (fun i wr => ∃ j1:Nat,j1 <= pl/\i = .int .i64 j1/\Goes I (U ++ (x.phis.take j1).flatMap nW) wr/\Turn bs wc wr/\Box wr wb.heap.size #[.slice api pl cpi,.slice aii cl cii,.int .i64 x.term.op,.int .i64 x.term.val,.slice ati x.term.to.length cti,.int .i64 x.term.n]) (fun i _=>pl - (intOf i).toNat)
   case atStart=>exact ⟨0,Nat.zero_le _,rfl,by simpa using HI.out,HT.out,B5.out⟩
   obtain ⟨j1,hj1,rfl,hI,hT,hB5⟩:=hrel
   clear lB5 cB5 fB5
   replace HI:=h! hI
   replace HT:=h! hT
   replace HW:=h! (HKEEP.out _ hT)
   replace B5:=h! hB5
   clear hI hT hB5
   generalize wr=w7 at *
   obtain ⟨lB5,cB5,fB5⟩:=B5.out
   by_cases hlt1:j1 < pl
   ·obtain ⟨rfl,hbp⟩:=HPA2.out (by omega)
    obtain ⟨p,hkp⟩ : ∃ p,x.phis[j1]? = some p:=⟨_,aB (by have:=HPL.out;omega)⟩
    obtain ⟨af,av,cf,cv,hP⟩:=HPX2.out j1 p hkp
    have HFL1:=h! (gH nW x.phis j1 p hkp)
    have hV:=hP.vals
    obtain ⟨m0,m1,m2,m3,r1,r2,r3,r4⟩:=hP.below HW.out hbp
    obtain ⟨vl,hvl⟩ : ∃ vl,vl=p.vals.length:=⟨_,rfl⟩
    obtain ⟨av',cv',bv,ov,hve,hvc,hvm,hva,hvx⟩:=hV.parts
    rw [<-hvl] at hve hvc hva hvx m3
    cases hve
    have HVL:=h! hvl
    have HVA:=h! hva
    have HVX:=h! hvx
    have HS7:=h! (HBS.out _ HT.out.size)
    have hvl16:vl <= 9223372036854775807:=by omega
    clear r1 r2 r3 r4 hP hkp hV hvl hva hvx
    obtain ⟨UP,hUP⟩ : ∃ UP,UP=U ++ (x.phis.take j1).flatMap nW:=⟨_,rfl⟩
    rw [<-hUP] at HI
    have HUP:=h! hUP
    clear hUP
    go_upto_region 7 with (fail)
    have nB7B5:w7.heap.size ≠ wb.heap.size:=fun e=>by have:=lB5;omega
    have nB5B7:wb.heap.size ≠ w7.heap.size:=fun e=>nB7B5 e.symm
    clear lB5 cB5 fB5
    have hA_:=(Below.refl w7.heap.size w7).alloc (aF _) (.cells #[.int .i64 p.id,.int .i64 p.typ,.slice af p.src.length cf,.slice av vl cv] 113)
    replace B5:=h! (B5.out.later hA_)
    replace HI:=h! (HI.out.later hA_)
    replace HT:=h! (HT.out.later hA_)
    replace HW:=h! (HW.out.trans (hA_.mono HW.out.size))
    clear hA_
    have B7:=h! (Box.new w7 #[.int .i64 p.id,.int .i64 p.typ,.slice af p.src.length cf,.slice av vl cv] 113)
    generalize w7.alloc (.cells #[.int .i64 p.id,.int .i64 p.typ,.slice af p.src.length cf,.slice av vl cv] 113)=w8 at *
    obtain ⟨lB5,cB5,fB5⟩:=B5.out
    obtain ⟨lB7,cB7,fB7⟩:=B7.out
    clear m0 m1 m2 m3
    go_wp2_with fail
    go_loopw [33] (fun i wr => ∃ q:Nat,q <= vl/\i = .int .i64 q/\Goes I (UP ++ (nW p).take q) wr/\Turn bs wc wr/\Box wr wb.heap.size #[.slice (some ⟨bph,oph,none⟩) pl cpi,.slice aii cl cii,.int .i64 x.term.op,.int .i64 x.term.val,.slice ati x.term.to.length cti,.int .i64 x.term.n]/\Box wr w7.heap.size #[.int .i64 p.id,.int .i64 p.typ,.slice af p.src.length cf,.slice av vl cv]) (fun i _=>vl - (intOf i).toNat)
    case atStart=>exact ⟨0,Nat.zero_le _,rfl,by simpa using HI.out,HT.out,B5.out,B7.out⟩
    obtain ⟨q,hq,rfl,hI,hT,hB5,hB7⟩:=hrel
    clear lB5 cB5 fB5 lB7 cB7 fB7
    replace HI:=h! hI
    replace HT:=h! hT
    replace HW:=h! (HKEEP.out _ hT)
    replace B5:=h! hB5
    replace B7:=h! hB7
    clear hI hT hB5 hB7
    generalize wr=w9 at *
    obtain ⟨lB5,cB5,fB5⟩:=B5.out
    obtain ⟨lB7,cB7,fB7⟩:=B7.out
    by_cases hlt2:q < vl
    ·obtain ⟨rfl,hbv⟩:=HVA.out (by omega)
     have h0:=(HW.out.cell hbv).trans (HVX.out q hlt2)
     have HTS:=h! (eP (nW p) q (p.vals.getD q 0,p.typ) (by unfold nW;rw [aU,eX _ _ (by have:=HVL.out;omega)];rfl))
     generalize p.vals.getD q 0=v at *
     go_wp2_with (go_at_fn k;refine (HS.out _ (v,p.typ) _ HI.out HT.out).mono ?_;rintro e w10 ⟨rfl,hI2,hT2⟩;have HI2:=h! hI2;have T2:=h! hT2;clear hI2 hT2)
     go_roundw
     case rel=>exact ⟨q+1,hlt2,by go_num,by rw [HTS.out, <-List.append_assoc];exact HI2.out,HT.out.trans T2.out,B5.out.turn T2.out HS5.out,B7.out.turn T2.out HS7.out⟩
     simp [intOf];omega
    obtain rfl:q=vl:=by omega
    rw [aI (by unfold nW;rw [bD];have:=HVL.out;omega)] at HI
    go_wp2
    go_roundw
    case rel=>exact ⟨j1+1,hlt1,by go_num,by rw [HFL1.out, <-List.append_assoc, <-HUP.out];exact HI.out,HT.out,B5.out⟩
    simp [intOf];omega
   obtain rfl:j1=pl:=by omega
   rw [aI (by have:=HPL.out;omega)] at HI
   obtain ⟨UC,hUC⟩ : ∃ UC,UC=U ++ x.phis.flatMap nW:=⟨_,rfl⟩
   rw [<-hUC] at HI
   have HUC:=h! hUC
   clear hUC
   go_wp2_with fail
   go_loopw [47] (fun i wr => ∃ j2:Nat,j2 <= cl/\i = .int .i64 j2/\Goes I (UC ++ (x.code.take j2).flatMap oW) wr/\Turn bs wc wr/\Box wr wb.heap.size #[.slice api j1 cpi,.slice aii cl cii,.int .i64 x.term.op,.int .i64 x.term.val,.slice ati x.term.to.length cti,.int .i64 x.term.n]) (fun i _=>cl - (intOf i).toNat)
   case atStart=>exact ⟨0,Nat.zero_le _,rfl,by simpa using HI.out,HT.out,B5.out⟩
   obtain ⟨j2,hj2,rfl,hI,hT,hB5⟩:=hrel
   clear lB5 cB5 fB5
   replace HI:=h! hI
   replace HT:=h! hT
   replace HW:=h! (HKEEP.out _ hT)
   replace B5:=h! hB5
   clear hI hT hB5
   generalize wr=w11 at *
   obtain ⟨lB5,cB5,fB5⟩:=B5.out
   by_cases hlt3:j2 < cl
   ·obtain ⟨rfl,hbp⟩:=HCA2.out (by omega)
    obtain ⟨y,hky⟩ : ∃ y,x.code[j2]? = some y:=⟨_,aB (by have:=HCL.out;omega)⟩
    obtain ⟨aa,ca,hP⟩:=HCX2.out j2 y hky
    have HFL2:=h! (gH oW x.code j2 y hky)
    have HARY:=h! (HARX.out y (aG hky))
    have hV:=hP.args
    obtain ⟨m0,m1,m2,m3,r1,r2,r3,r4⟩:=hP.below HW.out hbp
    obtain ⟨al,hal⟩ : ∃ al,al=y.args.length:=⟨_,rfl⟩
    obtain ⟨aa',ca',bar,oar,hve,hvc,hvm,hva,hvx⟩:=hV.parts
    rw [<-hal] at hve hvc hva hvx m2
    cases hve
    have HAL:=h! hal
    have HAA:=h! hva
    have HAX:=h! hvx
    have HS11:=h! (HBS.out _ HT.out.size)
    have hal16:al <= 9223372036854775807:=by omega
    clear r1 r2 r3 r4 hP hky hV hal hva hvx
    obtain ⟨UA,hUA⟩ : ∃ UA,UA=UC ++ (x.code.take j2).flatMap oW:=⟨_,rfl⟩
    rw [<-hUA] at HI
    have HUA:=h! hUA
    clear hUA
    go_upto_region 16 with (fail)
    have nB8B5:w11.heap.size ≠ wb.heap.size:=fun e=>by have:=lB5;omega
    have nB5B8:wb.heap.size ≠ w11.heap.size:=fun e=>nB8B5 e.symm
    clear lB5 cB5 fB5
    have hA_:=(Below.refl w11.heap.size w11).alloc (aF _) (.cells #[.int .i64 y.op,.int .i64 y.id,.slice aa al ca,.int .i64 y.n] 69)
    replace B5:=h! (B5.out.later hA_)
    replace HI:=h! (HI.out.later hA_)
    replace HT:=h! (HT.out.later hA_)
    replace HW:=h! (HW.out.trans (hA_.mono HW.out.size))
    clear hA_
    have B8:=h! (Box.new w11 #[.int .i64 y.op,.int .i64 y.id,.slice aa al ca,.int .i64 y.n] 69)
    generalize w11.alloc (.cells #[.int .i64 y.op,.int .i64 y.id,.slice aa al ca,.int .i64 y.n] 69)=w12 at *
    obtain ⟨lB5,cB5,fB5⟩:=B5.out
    obtain ⟨lB8,cB8,fB8⟩:=B8.out
    clear m0 m1 m2 m3
    go_wp2_with fail
    have HS12:=h! HT.out.size
    refine (yS y.op).mono ?_
    rintro e w13 ⟨u,rfl,hu,hb13⟩
    obtain ⟨ua,uc,rfl⟩:=hu.ints.form
    have HUI:Hid (oW y=y.args.zip (shp0 y.op).args):=h! rfl
    obtain ⟨s,hs⟩ : ∃ s,s=shp0 y.op:=⟨_,rfl⟩
    obtain ⟨ok,ho⟩ : ∃ ok,ok=(shp y.op).isSome:=⟨_,rfl⟩
    rw [<-hs] at HARY HUI
    rw [<-hs] at hu
    simp only [<-hs, <-ho]
    have HUN:=h! hu
    clear hs ho hu
    obtain ⟨res,sargs,kn⟩:=s
    simp only at *
    obtain ⟨sl,hsl⟩ : ∃ sl,sl=sargs.length:=⟨_,rfl⟩
    rw [<-hsl] at HARY HUN ⊢
    have HSL:=h! hsl
    clear hsl
    clear lB5 cB5 fB5 lB8 cB8 fB8
    replace B5:=h! (B5.out.later hb13)
    replace B8:=h! (B8.out.later hb13)
    replace HI:=h! (HI.out.later hb13)
    replace HT:=h! (HT.out.later hb13)
    replace HW:=h! (HW.out.trans (hb13.mono HW.out.size))
    clear hb13
    obtain ⟨lB5,cB5,fB5⟩:=B5.out
    obtain ⟨lB8,cB8,fB8⟩:=B8.out
    have HS13:=h! (HBS.out _ HT.out.size)
    go_upto_region 17 with (fail)
    replace HUN:=h! (HUN.out.later ((Below.refl _ _).alloc (aF _) (.cells #[.int .i64 res,.slice ua sl uc,.int .i64 kn] 249)))
    have nBSB5:w13.heap.size ≠ wb.heap.size:=fun e=>by have:=lB5;omega
    have nB5BS:wb.heap.size ≠ w13.heap.size:=fun e=>nBSB5 e.symm
    have nBSB8:w13.heap.size ≠ w11.heap.size:=fun e=>by have:=lB8;omega
    have nB8BS:w11.heap.size ≠ w13.heap.size:=fun e=>nBSB8 e.symm
    clear lB5 cB5 fB5 lB8 cB8 fB8
    have hA_:=(Below.refl w13.heap.size w13).alloc (aF _) (.cells #[.int .i64 res,.slice ua sl uc,.int .i64 kn] 249)
    replace B5:=h! (B5.out.later hA_)
    replace B8:=h! (B8.out.later hA_)
    replace HI:=h! (HI.out.later hA_)
    replace HT:=h! (HT.out.later hA_)
    replace HW:=h! (HW.out.trans (hA_.mono HW.out.size))
    clear hA_
    have BS:=h! (Box.new w13 #[.int .i64 res,.slice ua sl uc,.int .i64 kn] 249)
    generalize w13.alloc (.cells #[.int .i64 res,.slice ua sl uc,.int .i64 kn] 249)=w14 at *
    obtain ⟨lB5,cB5,fB5⟩:=B5.out
    obtain ⟨lB8,cB8,fB8⟩:=B8.out
    obtain ⟨lBS,cBS,fBS⟩:=BS.out
    go_wp2_with fail
    go_loopw [60] (fun i wr => ∃ q:Nat,q <= al/\i = .int .i64 q/\Goes I (UA ++ (oW y).take q) wr/\Turn bs wc wr/\Box wr wb.heap.size #[.slice api j1 cpi,.slice (some ⟨bcd,ocd,none⟩) cl cii,.int .i64 x.term.op,.int .i64 x.term.val,.slice ati x.term.to.length cti,.int .i64 x.term.n]/\Box wr w11.heap.size #[.int .i64 y.op,.int .i64 y.id,.slice aa al ca,.int .i64 y.n]/\Box wr w13.heap.size #[.int .i64 res,.slice ua sl uc,.int .i64 kn]/\New 3 w12 wr (.slice ua sl uc) sargs) (fun i _=>al - (intOf i).toNat)
    case atStart=>exact ⟨0,Nat.zero_le _,rfl,by simpa using HI.out,HT.out,B5.out,B8.out,BS.out,HUN.out⟩
    obtain ⟨q,hq,rfl,hI,hT,hB5,hB8,hBS,hun⟩:=hrel
    clear lB5 cB5 fB5 lB8 cB8 fB8 lBS cBS fBS
    replace HI:=h! hI
    replace HT:=h! hT
    replace HW:=h! (HKEEP.out _ hT)
    replace B5:=h! hB5
    replace B8:=h! hB8
    replace BS:=h! hBS
    replace HUN:=h! hun
    clear hI hT hB5 hB8 hBS hun
    generalize wr=w15 at *
    obtain ⟨lB5,cB5,fB5⟩:=B5.out
    obtain ⟨lB8,cB8,fB8⟩:=B8.out
    obtain ⟨lBS,cBS,fBS⟩:=BS.out
    by_cases hlt4:q < al
    ·obtain ⟨rfl,hbv⟩:=HAA.out (by omega)
     have h0:=(HW.out.cell hbv).trans (HAX.out q hlt4)
     obtain ⟨xa,xc,bsa,osa,hxe,hxc,hxm,hxa,hxx⟩:=HUN.out.ints.parts
     have hql:q < sl:=by have h1:=HARY.out;have h2:=HAL.out;have h3:=HSL.out;omega
     have hql2:q < sargs.length:=by have:=HSL.out;omega
     cases hxe
     obtain ⟨rfl,hbs2⟩:=hxa (by omega)
     have h1:=hxx q hql2
     have HTS:=h! (eP (oW y) q (y.args.getD q 0,sargs.getD q 0) (by rw [HUI.out,cT];exact ⟨eX _ _ (by have:=HAL.out;omega),eX _ _ hql2⟩))
     generalize y.args.getD q 0=v at *
     generalize sargs.getD q 0=t at *
     clear hxx hxa
     go_wp2_with (go_at_fn k;refine (HS.out _ (v,t) _ HI.out HT.out).mono ?_;rintro e w16 ⟨rfl,hI2,hT2⟩;have HI2:=h! hI2;have T2:=h! hT2;clear hI2 hT2)
     go_roundw
     case rel=>exact ⟨q+1,hlt4,by go_num,by rw [HTS.out, <-List.append_assoc];exact HI2.out,HT.out.trans T2.out,B5.out.turn T2.out HS5.out,B8.out.turn T2.out HS11.out,BS.out.turn T2.out HS13.out,HUN.out.turn T2.out (fun b hb=>aL (HBL.out b hb) HS12.out)⟩
     simp [intOf];omega
    obtain rfl:q=al:=by omega
    rw [aI (by rw [HUI.out,eJ];have:=HAL.out;omega)] at HI
    go_wp2
    go_roundw
    case rel=>exact ⟨j2+1,hlt3,by go_num,by rw [HFL2.out, <-List.append_assoc, <-HUA.out];exact HI.out,HT.out,B5.out⟩
    simp [intOf];omega
   obtain rfl:j2=cl:=by omega
   rw [aI (by have:=HCL.out;omega)] at HI
   have HE:Hid (∀ l,oX x.term=l -> ((f.blocks.take (j+1)).flatMap mZ=UC ++ x.code.flatMap oW ++ l)):=h! (fun l hl=>by rw [HFL.out, <-HU.out, <-hl,HUC.out];unfold mZ;simp [bV])
   cases h2:(x.term.op == 2)
   ·cases h3:(x.term.op == 3)
    ·have HTE:Hid (oX x.term=[]):=h! (by unfold oX;simp at h2 h3;simp [h2,h3])
     go_wp2
     go_roundw
     case rel=>exact ⟨j+1,hltb,by go_num,by rw [HE.out _ HTE.out,cK];exact HI.out,HT.out⟩
     simp [intOf];omega
    have HTE:Hid (oX x.term=[(x.term.val,0)]):=h! (by unfold oX;simp at h3;simp [h3])
    go_wp2_with (go_at_fn k;refine (HS.out _ (x.term.val,0) _ HI.out HT.out).mono ?_;rintro e w16 ⟨rfl,hI2,hT2⟩;have HI2:=h! hI2;have T2:=h! hT2;clear hI2 hT2)
    go_roundw
    case rel=>exact ⟨j+1,hltb,by go_num,by rw [HE.out _ HTE.out];exact HI2.out,HT.out.trans T2.out⟩
    simp [intOf];omega
   have HTE:Hid (oX x.term=[(x.term.val,2)]):=h! (by unfold oX;simp at h2;simp [h2])
   go_wp2_with (go_at_fn k;refine (HS.out _ (x.term.val,2) _ HI.out HT.out).mono ?_;rintro e w16 ⟨rfl,hI2,hT2⟩;have HI2:=h! hI2;have T2:=h! hT2;clear hI2 hT2)
   go_roundw
   case rel=>exact ⟨j+1,hltb,by go_num,by rw [HE.out _ HTE.out];exact HI2.out,HT.out.trans T2.out⟩
   simp [intOf];omega
  obtain rfl:j=nb:=by omega
  rw [aI (by have:=HNB.out;omega)] at HI
  go_wp2
  exact bodyPost_ret (v:=.tuple #[]) (by simp [results,Tryz.results127,go_sem, *]) rfl ⟨rfl,HI.out.now,HT.out⟩
end Go.Proofs.YtcmflfkpeodicaaGreat
