/- Part 11. -/
import Derived.Test.YtagabiidbbhhmaaGreatER10
namespace Go.Proofs.YtagabiidbbhhmaaGreat
set_option linter.all false
open Go.RowKit
theorem zV {w wc:World} {f:FuncD} {bc bm:Nat} {ap ab:Option Addr} {cp cb:Nat} (hW:Below w.heap.size w wc) (hm0:w.heap.size <= bm) (hne:bc ≠ bm)
  (hb:Box wc bc (chk (.slice ap f.params.length cp) (.slice ab f.blocks.length cb) f.arrays f.cells bm)) (hm:IMap wc bm []) (hp:Ints w (.slice ap f.params.length cp) f.params) (hB:eX gR 6 w (.slice ab f.blocks.length cb) f.blocks) :
  Calls Tryz.prog 136 #[.pointer (some ⟨bc,0,none⟩)] wc (iP (tB f) bm wc):=by
 cases h:jG f
 ·exact (aCD hb rfl rfl (hB.below gR.lasting hW) h).mono fun e w' ⟨he,hw⟩=>by
   subst he
   exact iP.no (rT h) (Turn.of_below hw _)
 ·have h2:=h
  unfold jG at h2
  simp only [aL,decide_eq_true_eq] at h2
  obtain ⟨⟨⟨⟨⟨⟨⟨q1,q2⟩,q3⟩,q4⟩,q5⟩,q6⟩,q7⟩,q8⟩:=h2
  exact wL hW hm0 hne hb hm rfl rfl hp hB q1 ⟨q2,q3⟩ ⟨q4,q5⟩ ⟨q6,q7⟩ q8 (wG h)
theorem New.turn {T:TypeId} {w w1 w2:World} {u:Value} {xs:List Int} {bs:List Nat} (h:New T w w1 u xs) (ht:Turn bs w1 w2) (hb:∀ b ∈ bs,b < w.heap.size):New T w w2 u xs :=
 h.keep fun g hg=>ht.block g (h.fresh g hg).2 fun hm=>by have:=hb g hm;have:=(h.fresh g hg).1;omega
theorem gT {α β : Type} (g : α -> List β) (l:List α) (k:Nat) (x : α) (h:l[k]? = some x):(l.take (k+1)).flatMap g=(l.take k).flatMap g ++ g x:=by
 rw [cZ,h];simp
theorem eT {α : Type} (l:List α) (k:Nat) (x : α) (h:l[k]? = some x):l.take (k+1)=l.take k ++ [x]:=by
 rw [cZ,h];rfl
theorem fK (l:List Int) (j:Nat) (h:j < l.length):l[j]? = some (l.getD j 0):=by
 rw [aK,aC h];rfl
structure Goes (I:List (Int × Int) -> World -> Prop) (us:List (Int × Int)) (W:World):Prop where
 now:I us W
 grow:∀ W',Below W.heap.size W W' -> I us W'
theorem Goes.later {I:List (Int × Int) -> World -> Prop} {us:List (Int × Int)} {W W' : World} (h:Goes I us W) (hb:Below W.heap.size W W'):Goes I us W':=⟨h.grow W' hb,fun W'' hb'=>h.grow W'' (hb.trans (hb'.mono hb.size))⟩
theorem Goes.alloc {I:List (Int × Int) -> World -> Prop} {us:List (Int × Int)} {W:World} (h:Goes I us W) (o:Obj):Goes I us (W.alloc o):=h.later ((Below.refl _ _).alloc (aB _) o)
def aGQ (k:FuncId) (cap:Array Value) (bs:List Nat) (wc:World) (I:List (Int × Int) -> World -> Prop):Prop :=
 ∀ us u W,I us W -> Turn bs wc W -> Calls Tryz.prog k (#[.int .i64 u.1,.int .i64 u.2] ++ cap) W fun e W'=>e = .returned (.tuple #[])/\I (us ++ [u]) W' /\ Turn bs W W'
def aFK (us:List (Int × Int)) (bs:List Nat) (I:List (Int × Int) -> World -> Prop) (wc:World) (e:Ending) (w' : World):Prop:=e = .returned (.tuple #[])/\I us w' /\ Turn bs wc w'
set_option maxHeartbeats 12800000 in
set_option maxRecDepth 100000 in
theorem aFL {w wc:World} {f:FuncD} {ap ab:Option Addr} {np cp nb cb:Nat} (hW:Below w.heap.size w wc) (hnb:nb=f.blocks.length) (hB:eX gR 6 w (.slice ab nb cb) f.blocks)
  (hargs:∀ b ∈ f.blocks, ∀ x ∈ b.code,x.args.length <= (shp0 x.op).args.length) (k:FuncId) (cap:Array Value) (eg:Enters Tryz.prog k) (bs:List Nat) (hbs:∀ b ∈ bs,w.heap.size <= b/\b < wc.heap.size) (I:List (Int × Int) -> World -> Prop)
  (hI:I [] wc) (hgrow:∀ us W W',I us W -> Below W.heap.size W W' -> I us W') (hstep:aGQ k cap bs wc I) :
  Calls Tryz.prog 137 #[.agg #[.slice ap np cp,.int .i64 f.arrays,.int .i64 f.cells,.slice ab nb cb],.func (.func k) #[] cap] wc (aFK (lD f) bs I wc):=by
 have ea:=h! hnb
 have HI:Hid (Goes I [] wc):=h! ⟨hI,fun W' hb=>hgrow _ _ _ hI hb⟩
 have HS:Hid (∀ us u W,Goes I us W -> Turn bs wc W -> Calls Tryz.prog k (#[.int .i64 u.1,.int .i64 u.2] ++ cap) W fun e W'=>e = .returned (.tuple #[])/\Goes I (us ++ [u]) W' /\ Turn bs W W') :=
  h! fun us u W h1 h2=>(hstep us u W h1.now h2).mono fun e W' ⟨he,h3,h4⟩=>⟨he,⟨h3,fun W'' hb=>hgrow _ _ _ h3 hb⟩,h4⟩
 have ff:=h! hargs
 have ag:Hid (∀ wr,Turn bs wc wr -> Below w.heap.size w wr):=h! (fun wr ht=>hW.trans (ht.below hW.size fun x hx=>(hbs x hx).1))
 have ck:Hid (∀ b,wc.heap.size <= b -> b ∉ bs):=h! (fun b hb hm=>by have:=(hbs b hm).2;omega)
 have fa:Hid (∀ b ∈ bs,b < wc.heap.size):=h! (fun b hb=>(hbs b hb).2)
 obtain ⟨a2,c2,bb,bo,eb,ex,hbm,fc,cs,dt⟩:=eY hB
 rw [<-hnb] at eb ex cs fc
 cases eb
 have fk:=h! cs
 have fs:=h! dt
 have HT:=h! (Turn.refl bs wc)
 have HW:=h! hW
 clear hW hnb hB hargs hbs hI hgrow hstep cs dt
 have eg1:∀ (args:Array Value) (w:World),(callFunc k args).run Tryz.prog w = .ok (.enter k args) w:=eg
 generalize f.arrays=ar at *
 generalize f.cells=ce at *
 go_enter Tryz.func137,Tryz.ntmps137
 go_upto_region 1 with (fail)
 have ad:=(Below.refl wc.heap.size wc).alloc (aB _) (.cells #[.slice ap np cp,.int .i64 ar,.int .i64 ce,.slice ab nb cb] 25)
 replace HI:=h! (HI.out.later ad)
 replace HT:=h! (HT.out.later ad)
 replace HW:=h! (HW.out.trans (ad.mono HW.out.size))
 clear ad
 have B2:=h! (Box.new wc #[.slice ap np cp,.int .i64 ar,.int .i64 ce,.slice ab nb cb] 25)
 generalize wc.alloc (.cells #[.slice ap np cp,.int .i64 ar,.int .i64 ce,.slice ab nb cb] 25)=w1 at *
 obtain ⟨fm,eo,fg⟩:=B2.out
 go_wp2_with fail
 clear fm eo fg B2
 go_loopw [19] (fun i wr => ∃ j:Nat,j <= nb/\i = .int .i64 j/\Goes I ((f.blocks.take j).flatMap lX) wr/\Turn bs wc wr) (fun i _=>nb - (intOf i).toNat)
 case atStart=>exact ⟨0,aJ _,rfl,HI.out,HT.out⟩
 case round =>
  obtain ⟨j,hj,rfl,hI,hT⟩:=hrel
  replace HI:=h! hI
  replace HT:=h! hT
  replace HW:=h! (ag.out _ hT)
  clear hI hT
  generalize wr=wb at *
  by_cases hltb:j < nb
  ·obtain ⟨rfl,fe⟩:=fk.out (by omega)
   obtain ⟨x,cj⟩ : ∃ x,f.blocks[j]? = some x:=⟨_,aC (by have:=ea.out;omega)⟩
   obtain ⟨bl,bj,bf,bg,ay,bh,hC⟩:=fs.out j x cj
   have fq:=h! (gT lX f.blocks j x cj)
   have cG:=h! (ff.out x (aG cj))
   have dm:=hC.phis
   have ds:=hC.code
   obtain ⟨pl,dj⟩ : ∃ pl,pl=x.phis.length:=⟨_,rfl⟩
   obtain ⟨cl,cn⟩ : ∃ cl,cl=x.code.length:=⟨_,rfl⟩
   obtain ⟨ac,capc,er,fi,bO,ez,hcm,bz,cy,ed⟩:=fZ ds
   obtain ⟨apx,capp,ey,es,bp,cM,hppm,bq,az,bn⟩:=fQ dm
   obtain ⟨k0,k1,k2,k3,k4,k5,q1,q2,q3,q4,q5,q6⟩:=hC.below HW.out fe
   rw [<-dj] at bp cM bq az k0
   rw [<-cn] at bO ez bz cy k1
   cases bp
   cases bO
   have dq:=h! dj
   have ei:=h! cn
   have dl:=h! az
   have dk:=h! bn
   have cq:=h! cy
   have cw:=h! ed
   have ek:=h! (ck.out _ HT.out.size)
   clear dj cn az bn cy ed q1 q2 q3 q4 q5 q6 hC dm ds cj
   obtain ⟨U,hU⟩ : ∃ U,U=(f.blocks.take j).flatMap lX:=⟨_,rfl⟩
   rw [<-hU] at HI
   have HU:=h! hU
   clear hU
   go_upto_region 4 with (fail)
   have ad:=(Below.refl wb.heap.size wb).alloc (aB _) (.cells #[.slice bl pl bg,.slice bj cl ay,.int .i64 x.term.op,.int .i64 x.term.val,.slice bf x.term.to.length bh,.int .i64 x.term.n] 63)
   replace HI:=h! (HI.out.later ad)
   replace HT:=h! (HT.out.later ad)
   replace HW:=h! (HW.out.trans (ad.mono HW.out.size))
   clear ad
   have B5:=h! (Box.new wb #[.slice bl pl bg,.slice bj cl ay,.int .i64 x.term.op,.int .i64 x.term.val,.slice bf x.term.to.length bh,.int .i64 x.term.n] 63)
   generalize wb.alloc (.cells #[.slice bl pl bg,.slice bj cl ay,.int .i64 x.term.op,.int .i64 x.term.val,.slice bf x.term.to.length bh,.int .i64 x.term.n] 63)=w5 at *
   obtain ⟨ae,ai,aj⟩:=B5.out
   clear k0 k1 k2 k3 k4 k5
   go_wp2_with fail
   go_loopw [26] (fun i wr => ∃ j1:Nat,j1 <= pl/\i = .int .i64 j1/\Goes I (U ++ (x.phis.take j1).flatMap oD) wr/\Turn bs wc wr/\Box wr wb.heap.size #[.slice bl pl bg,.slice bj cl ay,.int .i64 x.term.op,.int .i64 x.term.val,.slice bf x.term.to.length bh,.int .i64 x.term.n]) (fun i _=>pl - (intOf i).toNat)
   case atStart=>exact ⟨0,Nat.zero_le _,rfl,by simpa using HI.out,HT.out,B5.out⟩
   obtain ⟨j1,hj1,rfl,hI,hT,ao⟩:=hrel
   clear ae ai aj
   replace HI:=h! hI
   replace HT:=h! hT
   replace HW:=h! (ag.out _ hT)
   replace B5:=h! ao
   clear hI hT ao
   generalize wr=w7 at *
   obtain ⟨ae,ai,aj⟩:=B5.out
   by_cases hlt1:j1 < pl
   ·obtain ⟨rfl,dh⟩:=dl.out (by omega)
    obtain ⟨p,df⟩ : ∃ p,x.phis[j1]? = some p:=⟨_,aC (by have:=dq.out;omega)⟩
    obtain ⟨af,av,cf,cv,hP⟩:=dk.out j1 p df
    have cx:=h! (gT oD x.phis j1 p df)
    have hV:=hP.vals
    obtain ⟨m0,m1,m2,m3,r1,r2,r3,r4⟩:=hP.below HW.out dh
    obtain ⟨vl,db⟩ : ∃ vl,vl=p.vals.length:=⟨_,rfl⟩
    obtain ⟨av',cv',bv,ov,bx,cL,fd,bc,ba⟩:=hV.parts
    rw [<-db] at bx cL bc ba m3
    cases bx
    have ef:=h! db
    have ep:=h! bc
    have fp:=h! ba
    have et:=h! (ck.out _ HT.out.size)
    have hvl16:vl <= 9223372036854775807:=by omega
    clear r1 r2 r3 r4 hP df hV db bc ba
    obtain ⟨UP,cz⟩ : ∃ UP,UP=U ++ (x.phis.take j1).flatMap oD:=⟨_,rfl⟩
    rw [<-cz] at HI
    have ev:=h! cz
    clear cz
    go_upto_region 7 with (fail)
    have bw:w7.heap.size ≠ wb.heap.size:=fun e=>by have:=ae;omega
    have nB5B7:wb.heap.size ≠ w7.heap.size:=fun e=>bw e.symm
    clear ae ai aj
    have ad:=(Below.refl w7.heap.size w7).alloc (aB _) (.cells #[.int .i64 p.id,.int .i64 p.typ,.slice af p.src.length cf,.slice av vl cv] 78)
    replace B5:=h! (B5.out.later ad)
    replace HI:=h! (HI.out.later ad)
    replace HT:=h! (HT.out.later ad)
    replace HW:=h! (HW.out.trans (ad.mono HW.out.size))
    clear ad
    have B7:=h! (Box.new w7 #[.int .i64 p.id,.int .i64 p.typ,.slice af p.src.length cf,.slice av vl cv] 78)
    generalize w7.alloc (.cells #[.int .i64 p.id,.int .i64 p.typ,.slice af p.src.length cf,.slice av vl cv] 78)=w8 at *
    obtain ⟨ae,ai,aj⟩:=B5.out
    obtain ⟨dr,ej,dz⟩:=B7.out
    clear m0 m1 m2 m3
    go_wp2_with fail
    go_loopw [33] (fun i wr => ∃ q:Nat,q <= vl/\i = .int .i64 q/\Goes I (UP ++ (oD p).take q) wr/\Turn bs wc wr/\Box wr wb.heap.size #[.slice (some ⟨ey,es,none⟩) pl bg,.slice bj cl ay,.int .i64 x.term.op,.int .i64 x.term.val,.slice bf x.term.to.length bh,.int .i64 x.term.n]/\Box wr w7.heap.size #[.int .i64 p.id,.int .i64 p.typ,.slice af p.src.length cf,.slice av vl cv]) (fun i _=>vl - (intOf i).toNat)
    case atStart=>exact ⟨0,Nat.zero_le _,rfl,by simpa using HI.out,HT.out,B5.out,B7.out⟩
    obtain ⟨q,hq,rfl,hI,hT,ao,dy⟩:=hrel
    clear ae ai aj dr ej dz
    replace HI:=h! hI
    replace HT:=h! hT
    replace HW:=h! (ag.out _ hT)
    replace B5:=h! ao
    replace B7:=h! dy
    clear hI hT ao dy
    generalize wr=w9 at *
    obtain ⟨ae,ai,aj⟩:=B5.out
    obtain ⟨dr,ej,dz⟩:=B7.out
    by_cases hlt2:q < vl
    ·obtain ⟨rfl,dg⟩:=ep.out (by omega)
     have h0:=(HW.out.cell dg).trans (fp.out q hlt2)
     have cF:=h! (eT (oD p) q (p.vals.getD q 0,p.typ) (by unfold oD;rw [aQ,fK _ _ (by have:=ef.out;omega)];rfl))
     generalize p.vals.getD q 0=v at *
     go_wp2_with (go_at_fn k;refine (HS.out _ (v,p.typ) _ HI.out HT.out).mono ?_;rintro e w10 ⟨rfl,an,am⟩;have be:=h! an;have T2:=h! am;clear an am)
     go_roundw
     case rel=>exact ⟨q+1,hlt2,by go_num,by rw [cF.out, <-List.append_assoc];exact be.out,HT.out.trans T2.out,B5.out.turn T2.out ek.out,B7.out.turn T2.out et.out⟩
     simp [intOf];omega
    obtain rfl:q=vl:=by omega
    rw [aH (by unfold oD;rw [aW];have:=ef.out;omega)] at HI
    go_wp2
    go_roundw
    case rel=>exact ⟨j1+1,hlt1,by go_num,by rw [cx.out, <-List.append_assoc, <-ev.out];exact HI.out,HT.out,B5.out⟩
    simp [intOf];omega
   obtain rfl:j1=pl:=by omega
   rw [aH (by have:=dq.out;omega)] at HI
   obtain ⟨UC,dc⟩ : ∃ UC,UC=U ++ x.phis.flatMap oD:=⟨_,rfl⟩
   rw [<-dc] at HI
   have fh:=h! dc
   clear dc
   go_wp2_with fail
   go_loopw [47] (fun i wr => ∃ j2:Nat,j2 <= cl/\i = .int .i64 j2/\Goes I (UC ++ (x.code.take j2).flatMap pH) wr/\Turn bs wc wr/\Box wr wb.heap.size #[.slice bl j1 bg,.slice bj cl ay,.int .i64 x.term.op,.int .i64 x.term.val,.slice bf x.term.to.length bh,.int .i64 x.term.n]) (fun i _=>cl - (intOf i).toNat)
   case atStart=>exact ⟨0,Nat.zero_le _,rfl,by simpa using HI.out,HT.out,B5.out⟩
   obtain ⟨j2,hj2,rfl,hI,hT,ao⟩:=hrel
   clear ae ai aj
   replace HI:=h! hI
   replace HT:=h! hT
   replace HW:=h! (ag.out _ hT)
   replace B5:=h! ao
   clear hI hT ao
   generalize wr=aq at *
   obtain ⟨ae,ai,aj⟩:=B5.out
   by_cases hlt3:j2 < cl
   ·obtain ⟨rfl,dh⟩:=cq.out (by omega)
    obtain ⟨y,ci⟩ : ∃ y,x.code[j2]? = some y:=⟨_,aC (by have:=ei.out;omega)⟩
    obtain ⟨aa,ca,hP⟩:=cw.out j2 y ci
    have di:=h! (gT pH x.code j2 y ci)
    have bi:=h! (cG.out y (aG ci))
    have hV:=hP.args
    obtain ⟨m0,m1,m2,m3,r1,r2,r3,r4⟩:=hP.below HW.out dh
    obtain ⟨al,dd⟩ : ∃ al,al=y.args.length:=⟨_,rfl⟩
    obtain ⟨aa',ca',bar,oar,bx,cL,fd,bc,ba⟩:=hV.parts
    rw [<-dd] at bx cL bc ba m2
    cases bx
    have cm:=h! dd
    have fl:=h! bc
    have ew:=h! ba
    have cB:=h! (ck.out _ HT.out.size)
    have hal16:al <= 9223372036854775807:=by omega
    clear r1 r2 r3 r4 hP ci hV dd bc ba
    obtain ⟨UA,ct⟩ : ∃ UA,UA=UC ++ (x.code.take j2).flatMap pH:=⟨_,rfl⟩
    rw [<-ct] at HI
    have fo:=h! ct
    clear ct
    go_upto_region 16 with (fail)
    have cc:aq.heap.size ≠ wb.heap.size:=fun e=>by have:=ae;omega
    have nB5B8:wb.heap.size ≠ aq.heap.size:=fun e=>cc e.symm
    clear ae ai aj
    have ad:=(Below.refl aq.heap.size aq).alloc (aB _) (.cells #[.int .i64 y.op,.int .i64 y.id,.slice aa al ca,.int .i64 y.n] 82)
    replace B5:=h! (B5.out.later ad)
    replace HI:=h! (HI.out.later ad)
    replace HT:=h! (HT.out.later ad)
    replace HW:=h! (HW.out.trans (ad.mono HW.out.size))
    clear ad
    have B8:=h! (Box.new aq #[.int .i64 y.op,.int .i64 y.id,.slice aa al ca,.int .i64 y.n] 82)
    generalize aq.alloc (.cells #[.int .i64 y.op,.int .i64 y.id,.slice aa al ca,.int .i64 y.n] 82)=fj at *
    obtain ⟨ae,ai,aj⟩:=B5.out
    obtain ⟨bd,bk,bm⟩:=B8.out
    clear m0 m1 m2 m3
    go_wp2_with fail
    have co:=h! HT.out.size
    refine (aA8 y.op).mono ?_
    rintro e aw ⟨u,rfl,hu,ak⟩
    obtain ⟨ua,uc,rfl⟩:=hu.ints.form
    have cr:Hid (pH y=y.args.zip (shp0 y.op).args):=h! rfl
    obtain ⟨s,hs⟩ : ∃ s,s=shp0 y.op:=⟨_,rfl⟩
    obtain ⟨ok,ho⟩ : ∃ ok,ok=(shp y.op).isSome:=⟨_,rfl⟩
    rw [<-hs] at bi cr
    rw [<-hs] at hu
    simp only [<-hs, <-ho]
    have ax:=h! hu
    clear hs ho hu
    obtain ⟨cd,ah,kn⟩:=s
    simp only at *
    obtain ⟨sl,de⟩ : ∃ sl,sl=ah.length:=⟨_,rfl⟩
    rw [<-de] at bi ax ⊢
    have em:=h! de
    clear de
    clear ae ai aj bd bk bm
    replace B5:=h! (B5.out.later ak)
    replace B8:=h! (B8.out.later ak)
    replace HI:=h! (HI.out.later ak)
    replace HT:=h! (HT.out.later ak)
    replace HW:=h! (HW.out.trans (ak.mono HW.out.size))
    clear ak
    obtain ⟨ae,ai,aj⟩:=B5.out
    obtain ⟨bd,bk,bm⟩:=B8.out
    have da:=h! (ck.out _ HT.out.size)
    go_upto_region 17 with (fail)
    replace ax:=h! (ax.out.later ((Below.refl _ _).alloc (aB _) (.cells #[.int .i64 cd,.slice ua sl uc,.int .i64 kn] 238)))
    have bt:aw.heap.size ≠ wb.heap.size:=fun e=>by have:=ae;omega
    have nB5BS:wb.heap.size ≠ aw.heap.size:=fun e=>bt e.symm
    have br:aw.heap.size ≠ aq.heap.size:=fun e=>by have:=bd;omega
    have nB8BS:aq.heap.size ≠ aw.heap.size:=fun e=>br e.symm
    clear ae ai aj bd bk bm
    have ad:=(Below.refl aw.heap.size aw).alloc (aB _) (.cells #[.int .i64 cd,.slice ua sl uc,.int .i64 kn] 238)
    replace B5:=h! (B5.out.later ad)
    replace B8:=h! (B8.out.later ad)
    replace HI:=h! (HI.out.later ad)
    replace HT:=h! (HT.out.later ad)
    replace HW:=h! (HW.out.trans (ad.mono HW.out.size))
    clear ad
    have BS:=h! (Box.new aw #[.int .i64 cd,.slice ua sl uc,.int .i64 kn] 238)
    generalize aw.alloc (.cells #[.int .i64 cd,.slice ua sl uc,.int .i64 kn] 238)=w14 at *
    obtain ⟨ae,ai,aj⟩:=B5.out
    obtain ⟨bd,bk,bm⟩:=B8.out
    obtain ⟨dx,ec,dp⟩:=BS.out
    go_wp2_with fail
    go_loopw [60] (fun i wr => ∃ q:Nat,q <= al/\i = .int .i64 q/\Goes I (UA ++ (pH y).take q) wr/\Turn bs wc wr/\Box wr wb.heap.size #[.slice bl j1 bg,.slice (some ⟨er,fi,none⟩) cl ay,.int .i64 x.term.op,.int .i64 x.term.val,.slice bf x.term.to.length bh,.int .i64 x.term.n]/\Box wr aq.heap.size #[.int .i64 y.op,.int .i64 y.id,.slice aa al ca,.int .i64 y.n]/\Box wr aw.heap.size #[.int .i64 cd,.slice ua sl uc,.int .i64 kn]/\New 3 fj wr (.slice ua sl uc) ah) (fun i _=>al - (intOf i).toNat)
    case atStart=>exact ⟨0,Nat.zero_le _,rfl,by simpa using HI.out,HT.out,B5.out,B8.out,BS.out,ax.out⟩
    obtain ⟨q,hq,rfl,hI,hT,ao,eh,en,dn⟩:=hrel
    clear ae ai aj bd bk bm dx ec dp
    replace HI:=h! hI
    replace HT:=h! hT
    replace HW:=h! (ag.out _ hT)
    replace B5:=h! ao
    replace B8:=h! eh
    replace BS:=h! en
    replace ax:=h! dn
    clear hI hT ao eh en dn
    generalize wr=w15 at *
    obtain ⟨ae,ai,aj⟩:=B5.out
    obtain ⟨bd,bk,bm⟩:=B8.out
    obtain ⟨dx,ec,dp⟩:=BS.out
    by_cases hlt4:q < al
    ·obtain ⟨rfl,dg⟩:=fl.out (by omega)
     have h0:=(HW.out.cell dg).trans (ew.out q hlt4)
     obtain ⟨xa,xc,bsa,osa,fb,hxc,hxm,dw,ee⟩:=ax.out.ints.parts
     have hql:q < sl:=by have h1:=bi.out;have h2:=cm.out;have h3:=em.out;omega
     have ch:q < ah.length:=by have:=em.out;omega
     cases fb
     obtain ⟨rfl,hbs2⟩:=dw (by omega)
     have h1:=ee q ch
     have cF:=h! (eT (pH y) q (y.args.getD q 0,ah.getD q 0) (by rw [cr.out,cO];exact ⟨fK _ _ (by have:=cm.out;omega),fK _ _ ch⟩))
     generalize y.args.getD q 0=v at *
     generalize ah.getD q 0=t at *
     clear ee dw
     go_wp2_with (go_at_fn k;refine (HS.out _ (v,t) _ HI.out HT.out).mono ?_;rintro e dv ⟨rfl,an,am⟩;have be:=h! an;have T2:=h! am;clear an am)
     go_roundw
     case rel=>exact ⟨q+1,hlt4,by go_num,by rw [cF.out, <-List.append_assoc];exact be.out,HT.out.trans T2.out,B5.out.turn T2.out ek.out,B8.out.turn T2.out cB.out,BS.out.turn T2.out da.out,ax.out.turn T2.out (fun b hb=>aY (fa.out b hb) co.out)⟩
     simp [intOf];omega
    obtain rfl:q=al:=by omega
    rw [aH (by rw [cr.out,eI];have:=cm.out;omega)] at HI
    go_wp2
    go_roundw
    case rel=>exact ⟨j2+1,hlt3,by go_num,by rw [di.out, <-List.append_assoc, <-fo.out];exact HI.out,HT.out,B5.out⟩
    simp [intOf];omega
   obtain rfl:j2=cl:=by omega
   rw [aH (by have:=ei.out;omega)] at HI
   have HE:Hid (∀ l,pI x.term=l -> ((f.blocks.take (j+1)).flatMap lX=UC ++ x.code.flatMap pH ++ l)):=h! (fun l hl=>by rw [fq.out, <-HU.out, <-hl,fh.out];unfold lX;simp [bQ])
   cases h2:(x.term.op == 2)
   ·cases h3:(x.term.op == 3)
    ·have cg:Hid (pI x.term=[]):=h! (by unfold pI;simp at h2 h3;simp [h2,h3])
     go_wp2
     go_roundw
     case rel=>exact ⟨j+1,hltb,by go_num,by rw [HE.out _ cg.out,bY];exact HI.out,HT.out⟩
     simp [intOf];omega
    have cg:Hid (pI x.term=[(x.term.val,0)]):=h! (by unfold pI;simp at h3;simp [h3])
    go_wp2_with (go_at_fn k;refine (HS.out _ (x.term.val,0) _ HI.out HT.out).mono ?_;rintro e dv ⟨rfl,an,am⟩;have be:=h! an;have T2:=h! am;clear an am)
    go_roundw
    case rel=>exact ⟨j+1,hltb,by go_num,by rw [HE.out _ cg.out];exact be.out,HT.out.trans T2.out⟩
    simp [intOf];omega
   have cg:Hid (pI x.term=[(x.term.val,2)]):=h! (by unfold pI;simp at h2;simp [h2])
   go_wp2_with (go_at_fn k;refine (HS.out _ (x.term.val,2) _ HI.out HT.out).mono ?_;rintro e dv ⟨rfl,an,am⟩;have be:=h! an;have T2:=h! am;clear an am)
   go_roundw
   case rel=>exact ⟨j+1,hltb,by go_num,by rw [HE.out _ cg.out];exact be.out,HT.out.trans T2.out⟩
   simp [intOf];omega
  obtain rfl:j=nb:=by omega
  rw [aH (by have:=ea.out;omega)] at HI
  go_wp2
  exact bodyPost_ret (v:=.tuple #[]) (by simp [results,Tryz.results137,go_sem, *]) rfl ⟨rfl,HI.out.now,HT.out⟩
end Go.Proofs.YtagabiidbbhhmaaGreat
