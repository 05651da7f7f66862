/- Part 11. -/
import Derived.Test.YtagabiidbbhhmaaGreatEU10
namespace Go.Proofs.YtagabiidbbhhmaaGreat
set_option linter.all false
open Go.RowKit
theorem aAZ {w wc:World} {f:FuncD} {bc bm:Nat} {ap ab:Option Addr} {cp cb:Nat} (hW:Below w.heap.size w wc) (hm0:w.heap.size <= bm) (hne:bc ≠ bm)
  (hb:Box wc bc (chk (.slice ap f.params.length cp) (.slice ab f.blocks.length cb) f.arrays f.cells bm)) (hm:IMap wc bm []) (hp:Ints w (.slice ap f.params.length cp) f.params) (hB:eU gI 6 w (.slice ab f.blocks.length cb) f.blocks) :
  Calls Tryz.prog 136 #[.pointer (some ⟨bc,0,none⟩)] wc (iN (sA f) bm wc):=by
 cases h:jI f
 ·exact (aCP hb rfl rfl (hB.below gI.lasting hW) h).mono fun e w' ⟨he,hw⟩=>by
   subst he
   exact iN.no (rY h) (Turn.of_below hw _)
 ·have h2:=h
  unfold jI at h2
  simp only [aK,decide_eq_true_eq] at h2
  obtain ⟨⟨⟨⟨⟨⟨⟨q1,q2⟩,q3⟩,q4⟩,q5⟩,q6⟩,q7⟩,q8⟩:=h2
  exact xN hW hm0 hne hb hm rfl rfl hp hB q1 ⟨q2,q3⟩ ⟨q4,q5⟩ ⟨q6,q7⟩ q8 (xH h)
theorem New.turn {T:TypeId} {w w1 w2:World} {u:Value} {xs:List Int} {bs:List Nat} (h:New T w w1 u xs) (ht:Turn bs w1 w2) (hb:∀ b ∈ bs,b < w.heap.size):New T w w2 u xs :=
 h.keep fun g hg=>ht.block g (h.fresh g hg).2 fun hm=>by have:=hb g hm;have:=(h.fresh g hg).1;omega
theorem gM {α β : Type} (g : α -> List β) (l:List α) (k:Nat) (x : α) (h:l[k]? = some x):(l.take (k+1)).flatMap g=(l.take k).flatMap g ++ g x:=by
 rw [cW,h];simp
theorem eS {α : Type} (l:List α) (k:Nat) (x : α) (h:l[k]? = some x):l.take (k+1)=l.take k ++ [x]:=by
 rw [cW,h];rfl
theorem fI (l:List Int) (j:Nat) (h:j < l.length):l[j]? = some (l.getD j 0):=by
 rw [aN,aB h];rfl
structure Goes (I:List (Int × Int) -> World -> Prop) (us:List (Int × Int)) (W:World):Prop where
 now:I us W
 grow:∀ W',Below W.heap.size W W' -> I us W'
theorem Goes.later {I:List (Int × Int) -> World -> Prop} {us:List (Int × Int)} {W W' : World} (h:Goes I us W) (hb:Below W.heap.size W W'):Goes I us W':=⟨h.grow W' hb,fun W'' hb'=>h.grow W'' (hb.trans (hb'.mono hb.size))⟩
theorem Goes.alloc {I:List (Int × Int) -> World -> Prop} {us:List (Int × Int)} {W:World} (h:Goes I us W) (o:Obj):Goes I us (W.alloc o):=h.later ((Below.refl _ _).alloc (aC _) o)
def aGH (k:FuncId) (cap:Array Value) (bs:List Nat) (wc:World) (I:List (Int × Int) -> World -> Prop):Prop :=
 ∀ us u W,I us W -> Turn bs wc W -> Calls Tryz.prog k (#[.int .i64 u.1,.int .i64 u.2] ++ cap) W fun e W'=>e = .returned (.tuple #[])/\I (us ++ [u]) W' /\ Turn bs W W'
def aFS (us:List (Int × Int)) (bs:List Nat) (I:List (Int × Int) -> World -> Prop) (wc:World) (e:Ending) (w' : World):Prop:=e = .returned (.tuple #[])/\I us w' /\ Turn bs wc w'
set_option maxHeartbeats 12800000 in
set_option maxRecDepth 100000 in
theorem aFT {w wc:World} {f:FuncD} {ap ab:Option Addr} {np cp nb cb:Nat} (hW:Below w.heap.size w wc) (hnb:nb=f.blocks.length) (hB:eU gI 6 w (.slice ab nb cb) f.blocks)
  (hargs:∀ b ∈ f.blocks, ∀ x ∈ b.code,x.args.length <= (shp0 x.op).args.length) (k:FuncId) (cap:Array Value) (eg:Enters Tryz.prog k) (bs:List Nat) (hbs:∀ b ∈ bs,w.heap.size <= b/\b < wc.heap.size) (I:List (Int × Int) -> World -> Prop)
  (hI:I [] wc) (hgrow:∀ us W W',I us W -> Below W.heap.size W W' -> I us W') (hstep:aGH k cap bs wc I) :
  Calls Tryz.prog 137 #[.agg #[.slice ap np cp,.int .i64 f.arrays,.int .i64 f.cells,.slice ab nb cb],.func (.func k) #[] cap] wc (aFS (nR f) bs I wc):=by
 have ef:=h! hnb
 have HI:Hid (Goes I [] wc):=h! ⟨hI,fun W' hb=>hgrow _ _ _ hI hb⟩
 have HS:Hid (∀ us u W,Goes I us W -> Turn bs wc W -> Calls Tryz.prog k (#[.int .i64 u.1,.int .i64 u.2] ++ cap) W fun e W'=>e = .returned (.tuple #[])/\Goes I (us ++ [u]) W' /\ Turn bs W W') :=
  h! fun us u W h1 h2=>(hstep us u W h1.now h2).mono fun e W' ⟨he,h3,h4⟩=>⟨he,⟨h3,fun W'' hb=>hgrow _ _ _ h3 hb⟩,h4⟩
 have fc:=h! hargs
 have ah:Hid (∀ wr,Turn bs wc wr -> Below w.heap.size w wr):=h! (fun wr ht=>hW.trans (ht.below hW.size fun x hx=>(hbs x hx).1))
 have ck:Hid (∀ b,wc.heap.size <= b -> b ∉ bs):=h! (fun b hb hm=>by have:=(hbs b hm).2;omega)
 have fh:Hid (∀ b ∈ bs,b < wc.heap.size):=h! (fun b hb=>(hbs b hb).2)
 obtain ⟨a2,c2,bb,bo,em,ez,hbm,fm,df,ej⟩:=eW hB
 rw [<-hnb] at em ez df fm
 cases em
 have ex:=h! df
 have ew:=h! ej
 have HT:=h! (Turn.refl bs wc)
 have HW:=h! hW
 clear hW hnb hB hargs hbs hI hgrow hstep df ej
 have eg1:∀ (args:Array Value) (w:World),(callFunc k args).run Tryz.prog w = .ok (.enter k args) w:=eg
 generalize f.arrays=ar at *
 generalize f.cells=ce at *
 go_enter Tryz.func137,Tryz.ntmps137
 go_upto_region 1 with (fail)
 have ad:=(Below.refl wc.heap.size wc).alloc (aC _) (.cells #[.slice ap np cp,.int .i64 ar,.int .i64 ce,.slice ab nb cb] 25)
 replace HI:=h! (HI.out.later ad)
 replace HT:=h! (HT.out.later ad)
 replace HW:=h! (HW.out.trans (ad.mono HW.out.size))
 clear ad
 have B2:=h! (Box.new wc #[.slice ap np cp,.int .i64 ar,.int .i64 ce,.slice ab nb cb] 25)
 generalize wc.alloc (.cells #[.slice ap np cp,.int .i64 ar,.int .i64 ce,.slice ab nb cb] 25)=w1 at *
 obtain ⟨fo,ff,fq⟩:=B2.out
 go_wp2_with fail
 clear fo ff fq B2
 go_loopw [19] (fun i wr => ∃ j:Nat,j <= nb/\i = .int .i64 j/\Goes I ((f.blocks.take j).flatMap qX) wr/\Turn bs wc wr) (fun i _=>nb - (intOf i).toNat)
 case atStart=>exact ⟨0,aH _,rfl,HI.out,HT.out⟩
 case round =>
  obtain ⟨j,hj,rfl,hI,hT⟩:=hrel
  replace HI:=h! hI
  replace HT:=h! hT
  replace HW:=h! (ah.out _ hT)
  clear hI hT
  generalize wr=wb at *
  by_cases hltb:j < nb
  ·obtain ⟨rfl,es⟩:=ex.out (by omega)
   obtain ⟨x,cj⟩ : ∃ x,f.blocks[j]? = some x:=⟨_,aB (by have:=ef.out;omega)⟩
   obtain ⟨bj,bm,bh,bf,bi,bd,hC⟩:=ew.out j x cj
   have fd:=h! (gM qX f.blocks j x cj)
   have dl:=h! (fc.out x (aG cj))
   have dv:=hC.phis
   have ea:=hC.code
   obtain ⟨pl,cx⟩ : ∃ pl,pl=x.phis.length:=⟨_,rfl⟩
   obtain ⟨cl,cr⟩ : ∃ cl,cl=x.code.length:=⟨_,rfl⟩
   obtain ⟨ac,capc,ey,fg,cd,er,hcm,bw,dj,dw⟩:=fS ea
   obtain ⟨apx,capp,ep,eo,bp,dg,hppm,cg,be,bq⟩:=fH dv
   obtain ⟨k0,k1,k2,k3,k4,k5,q1,q2,q3,q4,q5,q6⟩:=hC.below HW.out es
   rw [<-cx] at bp dg cg be k0
   rw [<-cr] at cd er bw dj k1
   cases bp
   cases cd
   have ec:=h! cx
   have en:=h! cr
   have cs:=h! be
   have cL:=h! bq
   have cw:=h! dj
   have cy:=h! dw
   have eb:=h! (ck.out _ HT.out.size)
   clear cx cr be bq dj dw q1 q2 q3 q4 q5 q6 hC dv ea cj
   obtain ⟨U,hU⟩ : ∃ U,U=(f.blocks.take j).flatMap qX:=⟨_,rfl⟩
   rw [<-hU] at HI
   have HU:=h! hU
   clear hU
   go_upto_region 4 with (fail)
   have ad:=(Below.refl wb.heap.size wb).alloc (aC _) (.cells #[.slice bj pl bf,.slice bm cl bi,.int .i64 x.term.op,.int .i64 x.term.val,.slice bh x.term.to.length bd,.int .i64 x.term.n] 63)
   replace HI:=h! (HI.out.later ad)
   replace HT:=h! (HT.out.later ad)
   replace HW:=h! (HW.out.trans (ad.mono HW.out.size))
   clear ad
   have B5:=h! (Box.new wb #[.slice bj pl bf,.slice bm cl bi,.int .i64 x.term.op,.int .i64 x.term.val,.slice bh x.term.to.length bd,.int .i64 x.term.n] 63)
   generalize wb.alloc (.cells #[.slice bj pl bf,.slice bm cl bi,.int .i64 x.term.op,.int .i64 x.term.val,.slice bh x.term.to.length bd,.int .i64 x.term.n] 63)=w5 at *
   obtain ⟨ae,ai,aj⟩:=B5.out
   clear k0 k1 k2 k3 k4 k5
   go_wp2_with fail
   go_loopw [26] (fun i wr => ∃ j1:Nat,j1 <= pl/\i = .int .i64 j1/\Goes I (U ++ (x.phis.take j1).flatMap oY) wr/\Turn bs wc wr/\Box wr wb.heap.size #[.slice bj pl bf,.slice bm cl bi,.int .i64 x.term.op,.int .i64 x.term.val,.slice bh x.term.to.length bd,.int .i64 x.term.n]) (fun i _=>pl - (intOf i).toNat)
   case atStart=>exact ⟨0,Nat.zero_le _,rfl,by simpa using HI.out,HT.out,B5.out⟩
   obtain ⟨j1,hj1,rfl,hI,hT,ao⟩:=hrel
   clear ae ai aj
   replace HI:=h! hI
   replace HT:=h! hT
   replace HW:=h! (ah.out _ hT)
   replace B5:=h! ao
   clear hI hT ao
   generalize wr=w7 at *
   obtain ⟨ae,ai,aj⟩:=B5.out
   by_cases hlt1:j1 < pl
   ·obtain ⟨rfl,cn⟩:=cs.out (by omega)
    obtain ⟨p,db⟩ : ∃ p,x.phis[j1]? = some p:=⟨_,aB (by have:=ec.out;omega)⟩
    obtain ⟨af,av,cf,cv,hP⟩:=cL.out j1 p db
    have cm:=h! (gM oY x.phis j1 p db)
    have hV:=hP.vals
    obtain ⟨m0,m1,m2,m3,r1,r2,r3,r4⟩:=hP.below HW.out cn
    obtain ⟨vl,dk⟩ : ∃ vl,vl=p.vals.length:=⟨_,rfl⟩
    obtain ⟨av',cv',bv,ov,bt,cF,fp,az,bg⟩:=hV.parts
    rw [<-dk] at bt cF az bg m3
    cases bt
    have dn:=h! dk
    have fi:=h! az
    have fl:=h! bg
    have fj:=h! (ck.out _ HT.out.size)
    have hvl16:vl <= 9223372036854775807:=by omega
    clear r1 r2 r3 r4 hP db hV dk az bg
    obtain ⟨UP,di⟩ : ∃ UP,UP=U ++ (x.phis.take j1).flatMap oY:=⟨_,rfl⟩
    rw [<-di] at HI
    have fa:=h! di
    clear di
    go_upto_region 7 with (fail)
    have bn:w7.heap.size ≠ wb.heap.size:=fun e=>by have:=ae;omega
    have nB5B7:wb.heap.size ≠ w7.heap.size:=fun e=>bn e.symm
    clear ae ai aj
    have ad:=(Below.refl w7.heap.size w7).alloc (aC _) (.cells #[.int .i64 p.id,.int .i64 p.typ,.slice af p.src.length cf,.slice av vl cv] 78)
    replace B5:=h! (B5.out.later ad)
    replace HI:=h! (HI.out.later ad)
    replace HT:=h! (HT.out.later ad)
    replace HW:=h! (HW.out.trans (ad.mono HW.out.size))
    clear ad
    have B7:=h! (Box.new w7 #[.int .i64 p.id,.int .i64 p.typ,.slice af p.src.length cf,.slice av vl cv] 78)
    generalize w7.alloc (.cells #[.int .i64 p.id,.int .i64 p.typ,.slice af p.src.length cf,.slice av vl cv] 78)=w8 at *
    obtain ⟨ae,ai,aj⟩:=B5.out
    obtain ⟨dz,ed,dy⟩:=B7.out
    clear m0 m1 m2 m3
    go_wp2_with fail
    go_loopw [33] (fun i wr => ∃ q:Nat,q <= vl/\i = .int .i64 q/\Goes I (UP ++ (oY p).take q) wr/\Turn bs wc wr/\Box wr wb.heap.size #[.slice (some ⟨ep,eo,none⟩) pl bf,.slice bm cl bi,.int .i64 x.term.op,.int .i64 x.term.val,.slice bh x.term.to.length bd,.int .i64 x.term.n]/\Box wr w7.heap.size #[.int .i64 p.id,.int .i64 p.typ,.slice af p.src.length cf,.slice av vl cv]) (fun i _=>vl - (intOf i).toNat)
    case atStart=>exact ⟨0,Nat.zero_le _,rfl,by simpa using HI.out,HT.out,B5.out,B7.out⟩
    obtain ⟨q,hq,rfl,hI,hT,ao,ee⟩:=hrel
    clear ae ai aj dz ed dy
    replace HI:=h! hI
    replace HT:=h! hT
    replace HW:=h! (ah.out _ hT)
    replace B5:=h! ao
    replace B7:=h! ee
    clear hI hT ao ee
    generalize wr=w9 at *
    obtain ⟨ae,ai,aj⟩:=B5.out
    obtain ⟨dz,ed,dy⟩:=B7.out
    by_cases hlt2:q < vl
    ·obtain ⟨rfl,cz⟩:=fi.out (by omega)
     have h0:=(HW.out.cell cz).trans (fl.out q hlt2)
     have cM:=h! (eS (oY p) q (p.vals.getD q 0,p.typ) (by unfold oY;rw [aO,fI _ _ (by have:=dn.out;omega)];rfl))
     generalize p.vals.getD q 0=v at *
     go_wp2_with (go_at_fn k;refine (HS.out _ (v,p.typ) _ HI.out HT.out).mono ?_;rintro e w10 ⟨rfl,an,am⟩;have ba:=h! an;have T2:=h! am;clear an am)
     go_roundw
     case rel=>exact ⟨q+1,hlt2,by go_num,by rw [cM.out, <-List.append_assoc];exact ba.out,HT.out.trans T2.out,B5.out.turn T2.out eb.out,B7.out.turn T2.out fj.out⟩
     simp [intOf];omega
    obtain rfl:q=vl:=by omega
    rw [aJ (by unfold oY;rw [bI];have:=dn.out;omega)] at HI
    go_wp2
    go_roundw
    case rel=>exact ⟨j1+1,hlt1,by go_num,by rw [cm.out, <-List.append_assoc, <-fa.out];exact HI.out,HT.out,B5.out⟩
    simp [intOf];omega
   obtain rfl:j1=pl:=by omega
   rw [aJ (by have:=ec.out;omega)] at HI
   obtain ⟨UC,de⟩ : ∃ UC,UC=U ++ x.phis.flatMap oY:=⟨_,rfl⟩
   rw [<-de] at HI
   have ev:=h! de
   clear de
   go_wp2_with fail
   go_loopw [47] (fun i wr => ∃ j2:Nat,j2 <= cl/\i = .int .i64 j2/\Goes I (UC ++ (x.code.take j2).flatMap pH) wr/\Turn bs wc wr/\Box wr wb.heap.size #[.slice bj j1 bf,.slice bm cl bi,.int .i64 x.term.op,.int .i64 x.term.val,.slice bh x.term.to.length bd,.int .i64 x.term.n]) (fun i _=>cl - (intOf i).toNat)
   case atStart=>exact ⟨0,Nat.zero_le _,rfl,by simpa using HI.out,HT.out,B5.out⟩
   obtain ⟨j2,hj2,rfl,hI,hT,ao⟩:=hrel
   clear ae ai aj
   replace HI:=h! hI
   replace HT:=h! hT
   replace HW:=h! (ah.out _ hT)
   replace B5:=h! ao
   clear hI hT ao
   generalize wr=aw at *
   obtain ⟨ae,ai,aj⟩:=B5.out
   by_cases hlt3:j2 < cl
   ·obtain ⟨rfl,cn⟩:=cw.out (by omega)
    obtain ⟨y,ci⟩ : ∃ y,x.code[j2]? = some y:=⟨_,aB (by have:=en.out;omega)⟩
    obtain ⟨aa,ca,hP⟩:=cy.out j2 y ci
    have da:=h! (gM pH x.code j2 y ci)
    have bc:=h! (dl.out y (aG ci))
    have hV:=hP.args
    obtain ⟨m0,m1,m2,m3,r1,r2,r3,r4⟩:=hP.below HW.out cn
    obtain ⟨al,dd⟩ : ∃ al,al=y.args.length:=⟨_,rfl⟩
    obtain ⟨aa',ca',bar,oar,bt,cF,fp,az,bg⟩:=hV.parts
    rw [<-dd] at bt cF az bg m2
    cases bt
    have co:=h! dd
    have fb:=h! az
    have et:=h! bg
    have cB:=h! (ck.out _ HT.out.size)
    have hal16:al <= 9223372036854775807:=by omega
    clear r1 r2 r3 r4 hP ci hV dd az bg
    obtain ⟨UA,ct⟩ : ∃ UA,UA=UC ++ (x.code.take j2).flatMap pH:=⟨_,rfl⟩
    rw [<-ct] at HI
    have fs:=h! ct
    clear ct
    go_upto_region 16 with (fail)
    have cc:aw.heap.size ≠ wb.heap.size:=fun e=>by have:=ae;omega
    have nB5B8:wb.heap.size ≠ aw.heap.size:=fun e=>cc e.symm
    clear ae ai aj
    have ad:=(Below.refl aw.heap.size aw).alloc (aC _) (.cells #[.int .i64 y.op,.int .i64 y.id,.slice aa al ca,.int .i64 y.n] 82)
    replace B5:=h! (B5.out.later ad)
    replace HI:=h! (HI.out.later ad)
    replace HT:=h! (HT.out.later ad)
    replace HW:=h! (HW.out.trans (ad.mono HW.out.size))
    clear ad
    have B8:=h! (Box.new aw #[.int .i64 y.op,.int .i64 y.id,.slice aa al ca,.int .i64 y.n] 82)
    generalize aw.alloc (.cells #[.int .i64 y.op,.int .i64 y.id,.slice aa al ca,.int .i64 y.n] 82)=fe at *
    obtain ⟨ae,ai,aj⟩:=B5.out
    obtain ⟨ax,bl,bk⟩:=B8.out
    clear m0 m1 m2 m3
    go_wp2_with fail
    have cG:=h! HT.out.size
    refine (yY y.op).mono ?_
    rintro e aq ⟨u,rfl,hu,ak⟩
    obtain ⟨ua,uc,rfl⟩:=hu.ints.form
    have dc:Hid (pH y=y.args.zip (shp0 y.op).args):=h! rfl
    obtain ⟨s,hs⟩ : ∃ s,s=shp0 y.op:=⟨_,rfl⟩
    obtain ⟨ok,ho⟩ : ∃ ok,ok=(shp y.op).isSome:=⟨_,rfl⟩
    rw [<-hs] at bc dc
    rw [<-hs] at hu
    simp only [<-hs, <-ho]
    have ay:=h! hu
    clear hs ho hu
    obtain ⟨bx,ag,kn⟩:=s
    simp only at *
    obtain ⟨sl,cq⟩ : ∃ sl,sl=ag.length:=⟨_,rfl⟩
    rw [<-cq] at bc ay ⊢
    have eh:=h! cq
    clear cq
    clear ae ai aj ax bl bk
    replace B5:=h! (B5.out.later ak)
    replace B8:=h! (B8.out.later ak)
    replace HI:=h! (HI.out.later ak)
    replace HT:=h! (HT.out.later ak)
    replace HW:=h! (HW.out.trans (ak.mono HW.out.size))
    clear ak
    obtain ⟨ae,ai,aj⟩:=B5.out
    obtain ⟨ax,bl,bk⟩:=B8.out
    have dh:=h! (ck.out _ HT.out.size)
    go_upto_region 17 with (fail)
    replace ay:=h! (ay.out.later ((Below.refl _ _).alloc (aC _) (.cells #[.int .i64 bx,.slice ua sl uc,.int .i64 kn] 238)))
    have bO:aq.heap.size ≠ wb.heap.size:=fun e=>by have:=ae;omega
    have nB5BS:wb.heap.size ≠ aq.heap.size:=fun e=>bO e.symm
    have br:aq.heap.size ≠ aw.heap.size:=fun e=>by have:=ax;omega
    have nB8BS:aw.heap.size ≠ aq.heap.size:=fun e=>br e.symm
    clear ae ai aj ax bl bk
    have ad:=(Below.refl aq.heap.size aq).alloc (aC _) (.cells #[.int .i64 bx,.slice ua sl uc,.int .i64 kn] 238)
    replace B5:=h! (B5.out.later ad)
    replace B8:=h! (B8.out.later ad)
    replace HI:=h! (HI.out.later ad)
    replace HT:=h! (HT.out.later ad)
    replace HW:=h! (HW.out.trans (ad.mono HW.out.size))
    clear ad
    have BS:=h! (Box.new aq #[.int .i64 bx,.slice ua sl uc,.int .i64 kn] 238)
    generalize aq.alloc (.cells #[.int .i64 bx,.slice ua sl uc,.int .i64 kn] 238)=w14 at *
    obtain ⟨ae,ai,aj⟩:=B5.out
    obtain ⟨ax,bl,bk⟩:=B8.out
    obtain ⟨ei,ds,dp⟩:=BS.out
    go_wp2_with fail
    go_loopw [60] (fun i wr => ∃ q:Nat,q <= al/\i = .int .i64 q/\Goes I (UA ++ (pH y).take q) wr/\Turn bs wc wr/\Box wr wb.heap.size #[.slice bj j1 bf,.slice (some ⟨ey,fg,none⟩) cl bi,.int .i64 x.term.op,.int .i64 x.term.val,.slice bh x.term.to.length bd,.int .i64 x.term.n]/\Box wr aw.heap.size #[.int .i64 y.op,.int .i64 y.id,.slice aa al ca,.int .i64 y.n]/\Box wr aq.heap.size #[.int .i64 bx,.slice ua sl uc,.int .i64 kn]/\New 3 fe wr (.slice ua sl uc) ag) (fun i _=>al - (intOf i).toNat)
    case atStart=>exact ⟨0,Nat.zero_le _,rfl,by simpa using HI.out,HT.out,B5.out,B8.out,BS.out,ay.out⟩
    obtain ⟨q,hq,rfl,hI,hT,ao,dq,ek,dm⟩:=hrel
    clear ae ai aj ax bl bk ei ds dp
    replace HI:=h! hI
    replace HT:=h! hT
    replace HW:=h! (ah.out _ hT)
    replace B5:=h! ao
    replace B8:=h! dq
    replace BS:=h! ek
    replace ay:=h! dm
    clear hI hT ao dq ek dm
    generalize wr=w15 at *
    obtain ⟨ae,ai,aj⟩:=B5.out
    obtain ⟨ax,bl,bk⟩:=B8.out
    obtain ⟨ei,ds,dp⟩:=BS.out
    by_cases hlt4:q < al
    ·obtain ⟨rfl,cz⟩:=fb.out (by omega)
     have h0:=(HW.out.cell cz).trans (et.out q hlt4)
     obtain ⟨xa,xc,bsa,osa,fk,hxc,hxm,dt,dx⟩:=ay.out.ints.parts
     have hql:q < sl:=by have h1:=bc.out;have h2:=co.out;have h3:=eh.out;omega
     have ch:q < ag.length:=by have:=eh.out;omega
     cases fk
     obtain ⟨rfl,hbs2⟩:=dt (by omega)
     have h1:=dx q ch
     have cM:=h! (eS (pH y) q (y.args.getD q 0,ag.getD q 0) (by rw [dc.out,cX];exact ⟨fI _ _ (by have:=co.out;omega),fI _ _ ch⟩))
     generalize y.args.getD q 0=v at *
     generalize ag.getD q 0=t at *
     clear dx dt
     go_wp2_with (go_at_fn k;refine (HS.out _ (v,t) _ HI.out HT.out).mono ?_;rintro e dr ⟨rfl,an,am⟩;have ba:=h! an;have T2:=h! am;clear an am)
     go_roundw
     case rel=>exact ⟨q+1,hlt4,by go_num,by rw [cM.out, <-List.append_assoc];exact ba.out,HT.out.trans T2.out,B5.out.turn T2.out eb.out,B8.out.turn T2.out cB.out,BS.out.turn T2.out dh.out,ay.out.turn T2.out (fun b hb=>aR (fh.out b hb) cG.out)⟩
     simp [intOf];omega
    obtain rfl:q=al:=by omega
    rw [aJ (by rw [dc.out,eB];have:=co.out;omega)] at HI
    go_wp2
    go_roundw
    case rel=>exact ⟨j2+1,hlt3,by go_num,by rw [da.out, <-List.append_assoc, <-fs.out];exact HI.out,HT.out,B5.out⟩
    simp [intOf];omega
   obtain rfl:j2=cl:=by omega
   rw [aJ (by have:=en.out;omega)] at HI
   have HE:Hid (∀ l,qW x.term=l -> ((f.blocks.take (j+1)).flatMap qX=UC ++ x.code.flatMap pH ++ l)):=h! (fun l hl=>by rw [fd.out, <-HU.out, <-hl,ev.out];unfold qX;simp [bN])
   cases h2:(x.term.op == 2)
   ·cases h3:(x.term.op == 3)
    ·have bz:Hid (qW x.term=[]):=h! (by unfold qW;simp at h2 h3;simp [h2,h3])
     go_wp2
     go_roundw
     case rel=>exact ⟨j+1,hltb,by go_num,by rw [HE.out _ bz.out,bY];exact HI.out,HT.out⟩
     simp [intOf];omega
    have bz:Hid (qW x.term=[(x.term.val,0)]):=h! (by unfold qW;simp at h3;simp [h3])
    go_wp2_with (go_at_fn k;refine (HS.out _ (x.term.val,0) _ HI.out HT.out).mono ?_;rintro e dr ⟨rfl,an,am⟩;have ba:=h! an;have T2:=h! am;clear an am)
    go_roundw
    case rel=>exact ⟨j+1,hltb,by go_num,by rw [HE.out _ bz.out];exact ba.out,HT.out.trans T2.out⟩
    simp [intOf];omega
   have bz:Hid (qW x.term=[(x.term.val,2)]):=h! (by unfold qW;simp at h2;simp [h2])
   go_wp2_with (go_at_fn k;refine (HS.out _ (x.term.val,2) _ HI.out HT.out).mono ?_;rintro e dr ⟨rfl,an,am⟩;have ba:=h! an;have T2:=h! am;clear an am)
   go_roundw
   case rel=>exact ⟨j+1,hltb,by go_num,by rw [HE.out _ bz.out];exact ba.out,HT.out.trans T2.out⟩
   simp [intOf];omega
  obtain rfl:j=nb:=by omega
  rw [aJ (by have:=ef.out;omega)] at HI
  go_wp2
  exact bodyPost_ret (v:=.tuple #[]) (by simp [results,Tryz.results137,go_sem, *]) rfl ⟨rfl,HI.out.now,HT.out⟩
end Go.Proofs.YtagabiidbbhhmaaGreat
