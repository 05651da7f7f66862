/- Part 38. -/
import Derived.Test.YtcmflfkpeodicaaGreatIRA32
import Derived.Test.YtcmflfkpeodicaaGreatIRA37
namespace Go.Proofs.YtcmflfkpeodicaaGreat
set_option linter.all false
open Go.RowKit
def aF4 (base bs fuel:Nat) (w:World) (bm b7:Nat) (D:Foot) (A7:Array Value) (W:World) (s:RunS):Prop :=
 ∃ D',Mach base bs fuel W bm D' s/\Off D w W/\(∀ k,D' k -> D k \/ w.heap.size <= k) /\ ¬ D' b7/\Box W b7 A7
theorem pP {b:BlockD} {src:Int} {s:RunS} {k:Nat} {p:PhiD} (h:b.phis[k]? = some p):((b.phis.map fun p=>(p,phiV src s p)).take (k+1))=((b.phis.map fun p=>(p,phiV src s p)).take k) ++ [(p,phiV src s p)]:=by
 rw [bU,aU,h];rfl
theorem Mach.facts {base bs fuel:Nat} {W:World} {bm:Nat} {D:Foot} {s:RunS} (h:Mach base bs fuel W bm D s):(∀ i,In64 (s.vals i))/\(∀ a ∈ s.arrays, ∀ x ∈ a,In64 x) /\ ∀ x ∈ s.cells,In64 x:=by
 obtain ⟨_,_,_,_,_,_,_,hP,_⟩:=h
 exact ⟨hP.v64,hP.arr64,hP.cel.2⟩
theorem uJ {f:FuncD} (hc:eL f=0) {b:BlockD} (hb:b ∈ f.blocks):gS f.blocks.length b.term=true:=by
 obtain ⟨i,hi⟩:=bP hb
 exact (iU.1 ((gW.1 hc).2.2.1 i b hi)).2.2.2
theorem oD (F:Nat -> Foot) (i:Nat):newF F i (F i)=F:=by
 funext j
 unfold newF
 split
 ·rename_i e;rw [e]
 rfl
theorem oE {base bs fuel:Nat} {W W' : World} {bm:Nat} {s:RunS} {o:OverD} {ov av vv cv:Value} {mv:Nat} {m:List (Int × Value)} {F:Nat -> Foot} (h:MachP base bs fuel W bm s o ov av vv cv mv m F) (ht:Turn [mv] W W'):Off (F 4) W W' :=
 ⟨ht.os,ht.tape,ht.output,ht.size,fun k hk hn=>ht.block k hk fun hm=>hn ((h.m4 k).2 (by simpa using hm))⟩
theorem MachP.put_val {base bs fuel:Nat} {W W' : World} {bm:Nat} {s:RunS} {ov av vv cv:Value} {mv:Nat} {m:List (Int × Value)} {F:Nat -> Foot} (h:MachP base bs fuel W bm s ⟨0,0,0⟩ ov av vv cv mv m F) (ho:Off (F 4) W W') (hB:base <= W.heap.size) {id z:Int} (hz:In64 z)
  (hm:IMap W' mv (mput m id (.int .i64 z))):MachP base bs fuel W' bm (setV s id z) ⟨0,0,0⟩ ov av vv cv mv (mput m id (.int .i64 z)) F:=by
 have h9:=h.turn 4 (by omega) (by omega) (s':=setV s id z) (G:=F 4) (m':=mput m id (.int .i64 z)) ho (fun k hk=>.inl hk) hB (fun _=>h.m4) ⟨rfl,rfl⟩ (by rw [if_neg (by omega)];rfl) (by rw [if_neg (by omega)];rfl) (by rw [if_neg (by omega)];rfl) (by rw [if_neg (by omega)];rfl) (by
  rw [if_pos rfl]
  refine ⟨hm,fun i => ?_,fun i => ?_⟩
  ·rw [oZ]
   show _=Value.int .i64 (if i=id then z else s.vals i)
   by_cases e:i=id
   ·rw [if_pos e,if_pos e];rfl
   rw [if_neg e,if_neg e];exact h.val i
  show In64 (if i=id then z else s.vals i)
  split
  ·exact hz
  exact h.v64 i)
 rwa [oD] at h9
set_option maxHeartbeats 25600000 in
set_option maxRecDepth 100000 in
theorem aF5 {base bs fuel bm at_:Nat} {w:World} {D:Foot} {s:RunS} {f:FuncD} {x:BlockD} {src:Int} (hM:Mach base bs fuel w bm D s) (hB:base <= w.heap.size) (hE:Env f base w bs) (hc:eL f=0) (hfu:fuel <= 200000) (hG:GoodS f fuel s) (hV:∀ n ∈ s.visits,n <= 1000000)
  (hx:f.blocks[at_]? = some x) (hsrc:∀ p ∈ x.phis,src ∈ p.src) :
  Calls Tryz.prog 81 #[.pointer (some ⟨bm,0,none⟩),.int .i64 src,.int .i64 at_] w (ResR base bs fuel w bm D intV (gP f fuel src at_ s)):=by
 obtain ⟨w0,hw0,hb0,bt,bg,bv,e1,e2,e3,hbl⟩:=hE
 obtain ⟨a3,c3,bb,bo,rfl,hbc,hbm,hbl2,hba,hbx⟩:=eW hbl
 have hatl:at_ < f.blocks.length:=(aE.1 hx).1
 obtain ⟨rfl,hbw⟩:=hba (by omega)
 obtain ⟨api,aii,ati,cpi,cii,cti,hC⟩:=hbx at_ x hx
 obtain ⟨nb,hnb⟩ : ∃ nb,nb=f.blocks.length:=⟨_,rfl⟩
 rw [<-hnb] at e3 hbc hatl hbl2
 have HC:=h! hC
 have HNB:=h! hnb
 have HX:=h! hx
 have HXM:=h! (aG hx)
 have HSR:=h! hsrc
 have HCH:=h! hc
 have HB:=h! hB
 have HG:=h! hG
 have HBLK:Hid (gP f fuel src at_ s=(gQ fuel x.code (nC x src (kD at_ s))).bind fun _ s1=>(iL fuel s1).bind fun _ s2=>endR x.term s2):=h! (by unfold gP;rw [getD_some hx])
 have HE0:=h! (And.intro e1 (And.intro e2 e3))
 have H0L:Hid (Below w0.heap.size w0 w):=h! (by rw [hw0];exact hb0)
 have h512:nb <= 512:=by rw [hnb];exact (gV (eS hc).1).2
 obtain ⟨n0,hn0⟩ : ∃ n0,s.visits[at_]? = some n0:=⟨_,aB (by have:=hG.vis;omega)⟩
 have hn1:=hV n0 (aG hn0)
 obtain ⟨ov,av,vv,cv,mv,m,F,hP,hD⟩:=hM
 have HD:=h! hD
 have HP0:=h! hP
 have hvn:(natI s.visits)[at_]? = some ((n0:Nat):Int):=by unfold natI;rw [aU,hn0];rfl
 obtain ⟨gv,cvv,hvv,hgv,hgvl,hcv,hfv,hset⟩:=hP.vis.addr hvn
 have hvl:(natI s.visits).length=nb:=by unfold natI;rw [bD,hG.vis,hnb]
 rw [hvl] at hvv
 subst hvv
 have hset1:=hset (((n0+1:Nat):Int)) ⟨by omega,by omega⟩
 have hadd:IntKind.i64.wrap (((n0:Nat):Int)+1)=((n0+1:Nat):Int):=by rw [kJ ⟨by omega,by omega⟩];omega
 have hgb:gv ≠ bm:=fun e=>hP.apart 3 0 (by omega) gv hgv ((hP.b0 gv).2 e)
 -- behind the visit
 have HP1:Hid (MachP base bs fuel (w.setCell ⟨gv,at_,none⟩ (.int .i64 ((n0:Int)+1))) bm (kD at_ s) ⟨0,0,0⟩ ov av (.slice (some ⟨gv,0,none⟩) nb cvv) cv mv m (newF F 3 (F 3))):=h! (by
  have hoff:=Off.set w ⟨gv,at_,none⟩ (.int .i64 ((n0:Int)+1))
  refine hP.turn 3 (by omega) (by omega) (s':=kD at_ s) (G:=F 3) (hoff.mono fun k _ hk=>by cases hk;exact hgv) (fun k hk=>.inl hk) hB (fun e=>by omega) ⟨rfl,rfl⟩ (by rw [if_neg (by omega)];rfl) (by rw [if_neg (by omega)];rfl) ?_ (by rw [if_neg (by omega)];rfl) (by rw [if_neg (by omega)];exact ⟨rfl,rfl⟩)
  rw [if_pos rfl]
  show eM _ _ _ (natI (s.visits.modify at_ (· + 1)))
  rw [pW hn0]
  exact hset1)
 have HOV:Hid (Off D w (w.setCell ⟨gv,at_,none⟩ (.int .i64 ((n0:Int)+1)))):=h! ((Off.set w ⟨gv,at_,none⟩ _).mono fun k _ hk=>by cases hk;exact (hD gv).2 ⟨3,hgv⟩)
 have HDB:Hid (∀ k,D k -> base <= k):=h! (fun k hk=>by obtain ⟨i,hi⟩:=(hD k).1 hk;exact hP.base i k hi)
 have HDL:Hid (∀ k,D k -> k < w.heap.size):=h! (fun k hk=>by obtain ⟨i,hi⟩:=(hD k).1 hk;exact hP.lt hi)
 have HFD:Hid (∀ i k,newF F 3 (F 3) i k -> D k):=h! (fun i k hk=>(hD k).2 (by
  unfold newF at hk
  split at hk
  ·exact ⟨3,hk⟩
  exact ⟨i,hk⟩))
 have HW0:=h! hw0
 obtain ⟨lm,cm,fm⟩:=hP.box
 have hgvv:w.cell? ⟨gv,at_,none⟩=some (.int .i64 (n0:Int)):=hcv
 clear hbl hbx hC hx hnb hsrc hc hB hG hV hn0 hvn hP hD hset hset1 hvl hba hb0 e1 e2 e3 hw0
 go_enter Tryz.func81,Tryz.ntmps81
 go_upto_region 2 with (fail)
 clear cm fm hcv hfv hadd hgvv lm
 generalize w.setCell ⟨gv,at_,none⟩ (.int .i64 ((n0:Int)+1))=w1 at *
 obtain ⟨lm,cm,fm⟩:=HP1.out.box
 have HB01:Hid (Below w0.heap.size w0 w1):=h! (H0L.out.trans (HOV.out.below (by have:=HB.out;have:=HW0.out;omega) (fun k _ hk=>by have:=HDB.out k hk;have:=HW0.out;omega)))
 obtain ⟨q1,q2,q3⟩:=HE0.out
 have r1:=(HB01.out.cell (World.block_lt_of_cell? w0 _ q1)).trans q1
 have r2:=(HB01.out.cell (World.block_lt_of_cell? w0 _ q2)).trans q2
 have r3:=(HB01.out.cell (World.block_lt_of_cell? w0 _ q3)).trans q3
 clear q1 q2 q3
 obtain ⟨k0,k1,k2,k3,k4,k5, -, -, -, -, -, -⟩:=HC.out.below HB01.out hbw
 go_upto_region 3 with (fail)
 clear r1 r2 r3 k0 k1 k2 k3 k4 k5 cm fm lm
 obtain ⟨pl,hpl⟩ : ∃ pl,pl=x.phis.length:=⟨_,rfl⟩
 obtain ⟨cl,hcl⟩ : ∃ cl,cl=x.code.length:=⟨_,rfl⟩
 obtain ⟨tl,htl⟩ : ∃ tl,tl=x.term.to.length:=⟨_,rfl⟩
 rw [<-hpl, <-hcl, <-htl]
 have B7:Hid (Box (w1.alloc (.cells #[.slice api pl cpi,.slice aii cl cii,.int .i64 x.term.op,.int .i64 x.term.val,.slice ati tl cti,.int .i64 x.term.n] 50)) w1.heap.size #[.slice api pl cpi,.slice aii cl cii,.int .i64 x.term.op,.int .i64 x.term.val,.slice ati tl cti,.int .i64 x.term.n]):=h! (Box.new _ _ _)
 have HP2:=h! (HP1.out.alloc (.cells #[.slice api pl cpi,.slice aii cl cii,.int .i64 x.term.op,.int .i64 x.term.val,.slice ati tl cti,.int .i64 x.term.n] 50))
 have HO2:Hid (Off D w (w1.alloc (.cells #[.slice api pl cpi,.slice aii cl cii,.int .i64 x.term.op,.int .i64 x.term.val,.slice ati tl cti,.int .i64 x.term.n] 50))):=h! (HOV.out.trans (Off.alloc _ _ _))
 have HB02:Hid (Below w0.heap.size w0 (w1.alloc (.cells #[.slice api pl cpi,.slice aii cl cii,.int .i64 x.term.op,.int .i64 x.term.val,.slice ati tl cti,.int .i64 x.term.n] 50))):=h! (HB01.out.alloc HB01.out.size _)
 obtain ⟨b7,hb7⟩ : ∃ b7,b7=w1.heap.size:=⟨_,rfl⟩
 have hb7w:w.heap.size <= b7:=by rw [hb7];exact HOV.out.size
 rw [<-hb7] at B7 ⊢
 generalize w1.alloc (.cells #[.slice api pl cpi,.slice aii cl cii,.int .i64 x.term.op,.int .i64 x.term.val,.slice ati tl cti,.int .i64 x.term.n] 50)=w2 at *
 clear hb7 HP1 HB01 HOV
 have HPL:=h! hpl
 have HCL:=h! hcl
 have HTL:=h! htl
 obtain ⟨s1,hs1⟩ : ∃ s1,s1=kD at_ s:=⟨_,rfl⟩
 rw [<-hs1] at HP2 HBLK
 have HG1:Hid (GoodS f fuel s1):=h! (by rw [hs1];exact HG.out.visit at_)
 obtain ⟨F1,hF1⟩ : ∃ F1,F1=newF F 3 (F 3):=⟨_,rfl⟩
 rw [<-hF1] at HP2 HFD
 obtain ⟨a9,c9,pb,po,hpe, -, -,hpl2,hpa,hpx⟩:=fV HC.out.phis
 rw [<-hpl] at hpe hpa hpl2
 cases hpe
 have HPA:=h! hpa
 have HPX:=h! hpx
 obtain ⟨a10,c10,cb,co,hce, -, -,hcl2,hca,hcx⟩:=gC HC.out.code
 rw [<-hcl] at hce hca hcl2
 cases hce
 have HCA:=h! hca
 have HCX:=h! hcx
 have HCLE:Hid (cl <= 100000/\pl <= 100000):=h! (by have h9:=(pF HCH.out).1 x HXM.out;rw [hcl,hpl];exact ⟨h9.2,h9.1⟩)
 clear hpl hcl htl hs1 hF1 hpa hpx hca hcx
 obtain ⟨W2,hW2⟩ : ∃ W2,W2=w2:=⟨_,rfl⟩
 have HL2:Hid (nU W2 w2):=h! (by rw [hW2];exact Below.refl _ _)
 rw [<-hW2] at HP2 HO2 HB02 B7
 clear hW2
 obtain ⟨l7,c7,f7⟩:=B7.out.later HL2.out
 go_wp2_with fail
 clear l7 c7 f7
 have HVL:Hid ((x.phis.map (phiV src s1)).length=pl):=h! (by rw [bD,HPL.out])
 go_loopw [8,47] (fun t i wr => ∃ (q:Nat) (S:Foot) (a:Option Addr) (c:Nat),q <= pl/\i = .int .i64 q/\t = .slice a q c/\eM wr S (.slice a q c) ((x.phis.map (phiV src s1)).take q)/\jY W2.heap.size S/\nU W2 wr) (fun _ i _=>pl - (intOf i).toNat)
 case atStart=>exact ⟨0,Foot.none,none,0,aP _,rfl,rfl,eM.nil none,fun _ h=>h.elim,HL2.out⟩
 case round =>
  obtain ⟨q,S,a5,c5,hq,rfl,rfl,hO,hF,hs⟩:=hrel
  clear HL2
  have HS:=h! hs
  have HO:=h! hO
  have HF:=h! hF
  have HPR:=h! (HP2.out.later hs)
  have HB0:Hid (Below w0.heap.size w0 wr):=h! (HB02.out.trans (Below.mono hs HB02.out.size))
  clear hs hO hF
  by_cases hlt:q < pl
  ·obtain ⟨rfl,hpbl⟩:=HPA.out (by omega)
   obtain ⟨p,hp⟩ : ∃ p,x.phis[q]? = some p:=⟨_,aB (by have:=HPL.out;omega)⟩
   have hpm:=aG hp
   obtain ⟨af,avp,cf,cvp,hPC⟩:=HPX.out q p hp
   obtain ⟨z0,z1,z2,z3, -, -, -, -⟩:=hPC.below HB0.out hpbl
   have HSRC:=h! hPC.src
   obtain ⟨ix,hix⟩ : ∃ ix,ix=p.src.idxOf src:=⟨_,rfl⟩
   obtain ⟨hpi,hpv⟩:=aAD HCH.out HX.out hpm (HSR.out p hpm)
   rw [<-hix] at hpi hpv
   obtain ⟨vb,vo,vc,hve,hvbl,hvx⟩:=fK hPC.vals (by omega)
   cases hve
   obtain ⟨y,hy⟩ : ∃ y,y=p.vals.getD ix 0:=⟨_,rfl⟩
   have hyc:=hvx ix hpi
   rw [<-hy] at hyc
   have HYC:Hid (∀ W,Below wr.heap.size wr W -> W.cell? ⟨vb,vo+ix,none⟩=some (.int .i64 y)):=h! (fun W hb=>((HB0.out.trans (hb.mono HB0.out.size)).cell (p:=⟨vb,vo+ix,none⟩) hvbl).trans hyc)
   have HIX:Hid (∀ W,Below wr.heap.size wr W -> Calls Tryz.prog 76 #[.slice af p.src.length cf,.int .i64 src] W fun e W'=>e = .returned (.int .i64 (ix:Int))/\Below W.heap.size W W'):=h! (fun W hb=>by
    refine (oJ (HSRC.out.below (HB0.out.trans (hb.mono HB0.out.size)))).mono ?_
    rintro e W' ⟨rfl,rfl⟩
    exact ⟨by rw [aCW (HSR.out p hpm),hix],Below.refl _ _⟩)
   have HTK:Hid ((x.phis.map (phiV src s1)).take (q+1)=(x.phis.map (phiV src s1)).take q ++ [s1.vals y]):=h! (by
    rw [bU,aU,hp,hy,hix];rfl)
   have HLK:Hid (∀ wg,Below wr.heap.size wr wg -> (Instr.lookup 74 (.map (some mv)) (.int .i64 y) false).run Tryz.prog wg = .ok (.int .i64 (s1.vals y)) wg):=h! (fun wg hbg=>by
    rw [((HPR.out.later hbg).mp).lookup0 Tryz.underlying74 Tryz.underlying3 (gT _) y,HPR.out.val y])
   have HY64:=h! (HPR.out.v64 y)
   have HLN:Hid (((x.phis.map (phiV src s1)).take q).length=q):=h! (by rw [aX,HVL.out];omega)
   have HOH:Hid (Holds [] W2.heap.size wr S (fun W=>eM W S (.slice a5 q c5) ((x.phis.map (phiV src s1)).take q))):=h! (jF HO.out HF.out)
   obtain ⟨z,hz⟩ : ∃ z,z=s1.vals y:=⟨_,rfl⟩
   rw [<-hz] at HTK HLK HY64
   clear hy hz HO hPC hvx hyc hp hpm hix hpv
   go_upto_region 7 with (fail)
   clear z0 z1 z2 z3
   have B10:Hid (Box (wr.alloc (.cells #[.int .i64 p.id,.int .i64 p.typ,.slice af p.src.length cf,.slice (some ⟨vb,vo,none⟩) p.vals.length cvp] 113)) wr.heap.size #[.int .i64 p.id,.int .i64 p.typ,.slice af p.src.length cf,.slice (some ⟨vb,vo,none⟩) p.vals.length cvp]):=h! (Box.new _ _ _)
   have hal:Below wr.heap.size wr (wr.alloc (.cells #[.int .i64 p.id,.int .i64 p.typ,.slice af p.src.length cf,.slice (some ⟨vb,vo,none⟩) p.vals.length cvp] 113)):=(Below.refl _ _).alloc (aF _) _
   have HAL:=h! hal
   replace HOH:=h! (HOH.out.later hal)
   replace HS:=h! (HS.out.later hal)
   clear hal
   generalize wr.alloc (.cells #[.int .i64 p.id,.int .i64 p.typ,.slice af p.src.length cf,.slice (some ⟨vb,vo,none⟩) p.vals.length cvp] 113)=w3 at *
   obtain ⟨lB10,cB10,fB10⟩:=B10.out
   refine wp_region_grow 15 (fun kz=>match kz with | 10=>.const (.int .i64 (ix:Int)) | 14=>.made w3.heap.size (fun b=>.slice (some ⟨b,0,none⟩) 1 1) #[.int .i64 z] | _=>.plain) (by kernel_rfl) (by kernel_rfl) ?_ (fun ν => ?_)
   ·(intro k;(try dsimp only);split <;> first | exact True.intro | (intro u w1 w2 hu hb;exact hu.below hb))
   simp only [aK,aR,aM,aT]
   iterate 10 (refine Grow.val (v := ?_) rfl rfl (fun wg hbg hdg => ?_) ?_;rotate_left;(focus ((obtain ⟨lg0,cg0,fg0⟩:=B10.out.later hbg);(have hbg2:=HAL.out.trans (hbg.mono HAL.out.size);obtain ⟨xl1,xc1,xf1⟩:=(HPR.out.later hbg2).box;have hlk:=HLK.out wg hbg2;have hyw:=HYC.out wg hbg2);clear hbg hdg;first | (go_simp;done) | (go_simp;with_reducible rfl)));simp only [Act.put,aA,aC,aD])
   refine Grow.call (f := ?_) (args := ?_) rfl (fun wg => ?_) (fun wg hbg hdg => ?_) ?_
   rotate_left 2
   focus (first | (go_simp;done) | (go_simp;refine And.intro ?_ ?_ <;> with_reducible rfl) | (go_simp;with_reducible rfl))
   focus exact Calls.mono (HIX.out wg (HAL.out.trans (hbg.mono HAL.out.size))) (fun e w2 ⟨he,hb2⟩=>⟨_,he,rfl,hb2⟩)
   simp only [Act.put,Known.val,aA,aC,aD]
   iterate 3 (refine Grow.val (v := ?_) rfl rfl (fun wg hbg hdg => ?_) ?_;rotate_left;(focus ((obtain ⟨lg0,cg0,fg0⟩:=B10.out.later hbg);(have hbg2:=HAL.out.trans (hbg.mono HAL.out.size);obtain ⟨xl1,xc1,xf1⟩:=(HPR.out.later hbg2).box;have hlk:=HLK.out wg hbg2;have hyw:=HYC.out wg hbg2);clear hbg hdg;first | (go_simp;done) | (go_simp;with_reducible rfl)));simp only [Act.put,aA,aC,aD])
   refine Grow.made (T := ?_) rfl rfl (fun wg hbg hdg => ?_) ?_
   rotate_left
   focus ((obtain ⟨lg0,cg0,fg0⟩:=B10.out.later hbg);(have hbg2:=HAL.out.trans (hbg.mono HAL.out.size);obtain ⟨xl1,xc1,xf1⟩:=(HPR.out.later hbg2).box;have hlk:=HLK.out wg hbg2;have hyw:=HYC.out wg hbg2);clear hbg hdg;first | (go_simp;done) | (go_simp;with_reducible rfl))
   simp only [Act.put,Known.val,aA,aC,aD]
   intro wg hb hf hap
   obtain ⟨bBN,hνBN,hBBN,hXBN⟩:=hf 14 (by omega)
   have nBNB10:bBN ≠ wr.heap.size:=fun e=>by have:=lB10;omega
   have nB10BN:wr.heap.size ≠ bBN:=fun e=>nBNB10 e.symm
   simp only [hνBN]
   clear hνBN
   clear hap
   clear lB10 cB10 fB10
   replace B10:=h! (B10.out.later hb)
   replace HOH:=h! (HOH.out.later hb)
   replace HS:=h! (HS.out.later hb)
   have BN:=h! hXBN
   clear hXBN
   obtain ⟨lB10,cB10,fB10⟩:=B10.out
   obtain ⟨lBN,cBN,fBN⟩:=BN.out
   clear hf hb
   clear lB10 cB10 fB10 lBN cBN fBN
   refine jC rfl _ _ rfl rfl rfl HLN.out HOH.out.now BN.out HY64.out (by have:=HCLE.out.2;omega) ?_
   intro g1 c1 w10 q1 q2 q3
   have HS10:Hid (nU W2 w10):=h! (Below.trans HS.out (q3.below (Below.size HS.out) (fun k _ hk=>HF.out k hk)))
   have HO10:Hid (eM w10 (Foot.one g1) (.slice (some ⟨g1,0,none⟩) (q+1) c1) ((x.phis.map (phiV src s1)).take (q+1))):=h! (by rw [HTK.out];exact q1)
   have HF10:Hid (jY W2.heap.size (Foot.one g1)):=h! (fun k hk=>by
    cases hk
    rcases q2 with h | h
    ·exact HF.out _ h
    exact aJ (Below.size HS.out) h)
   clear q1 q2 q3
   go_wp2
   go_roundw
   case rel=>exact ⟨q+1,_,_,_,hlt,by go_num,rfl,HO10.out,HF10.out,HS10.out⟩
   simp [intOf];omega
  obtain rfl:pl=q:=by omega
  have HV8:Hid (eM wr S (.slice a5 pl c5) (x.phis.map (phiV src s1))):=h! (by
   have h9:=HO.out
   rw [aI (by rw [HVL.out];omega)] at h9
   exact h9)
  obtain ⟨W4,hW4⟩ : ∃ W4,W4=wr:=⟨_,rfl⟩
  have B74:Hid (Box W4 b7 #[.slice api pl cpi,.slice aii cl cii,.int .i64 x.term.op,.int .i64 x.term.val,.slice ati tl cti,.int .i64 x.term.n]):=h! (by rw [hW4];exact B7.out.later HS.out)
  have HF4:Hid (Off (F1 4) W4 wr):=h! (by rw [hW4];exact Off.refl _ _)
  have HO4:Hid (Off D w W4):=h! (by rw [hW4];exact HO2.out.trans (Off.of_below HS.out _))
  have HB04:Hid (Below w0.heap.size w0 W4):=h! (by rw [hW4];exact HB0.out)
  rw [<-hW4] at HV8
  obtain ⟨l7,c7,f7⟩:=B7.out.later HS.out
  have hS2:∀ k,S k -> ¬ F1 4 k:=fun k hk h=>by have h8:=HF.out k hk;have h9:=HP2.out.lt h;omega
  have HS2:=h! hS2
  have hb7F:¬ F1 4 b7:=fun h=>by have h9:=HDL.out _ (HFD.out 4 _ h);omega
  clear hW4 HO hlt hq hS2 HB0
  go_wp2_with fail
  clear l7 c7 f7
  go_loopw [71] (fun i wr => ∃ (k:Nat) (mk:List (Int × Value)),k <= pl/\i = .int .i64 k/\MachP base bs fuel wr bm (mC s1 ((x.phis.map fun p=>(p,phiV src s1 p)).take k)) ⟨0,0,0⟩ ov av (.slice (some ⟨gv,0,none⟩) nb cvv) cv mv mk F1/\Off (F1 4) W4 wr) (fun i _=>pl - (intOf i).toNat)
  case atStart=>exact ⟨0,m,aP _,rfl,by rw [aR];exact HPR.out,HF4.out⟩
  obtain ⟨k,mk,hk,rfl,hmp,hof⟩:=hrel
  clear HF4 HPR
  have HPK:=h! hmp
  have HOF:=h! hof
  have hF4b:∀ k,F1 4 k -> base <= k:=fun k h=>HPK.out.base 4 k h
  have HB0:Hid (Below w0.heap.size w0 wr):=h! (HB04.out.trans (hof.below HB04.out.size (fun k _ h=>by have:=hF4b k h;have:=HW0.out;omega)))
  have B7:Hid (Box wr b7 #[.slice api pl cpi,.slice aii cl cii,.int .i64 x.term.op,.int .i64 x.term.val,.slice ati tl cti,.int .i64 x.term.n]):=h! (B74.out.off hof hb7F)
  clear hmp hof
  by_cases hlt:k < pl
  ·obtain ⟨rfl,hpbl⟩:=HPA.out (by omega)
   obtain ⟨p,hp⟩ : ∃ p,x.phis[k]? = some p:=⟨_,aB (by have:=HPL.out;omega)⟩
   obtain ⟨af,avp,cf,cvp,hPC⟩:=HPX.out k p hp
   obtain ⟨z0,z1,z2,z3, -, -, -, -⟩:=hPC.below HB0.out hpbl
   obtain ⟨sb,so,sc,hse,hsbl,hsx⟩:=fK HV8.out.ints (by rw [HVL.out];omega)
   rw [HVL.out] at hse
   cases hse
   have hsb:S sb/\so=0:=by
    rcases HV8.out.1.form with ⟨h0, -⟩ | ⟨g9,c9,cur9,hv9,hG9, -⟩
    ·rw [HVL.out] at h0;omega
    injection hv9 with q1 q2 q3
    injection q1 with q1
    injection q1 with q1 q2
    exact ⟨by rw [q1];exact hG9,q2⟩
   obtain ⟨z,hz⟩ : ∃ z,z=(x.phis.map (phiV src s1)).getD k 0:=⟨_,rfl⟩
   have hzc:=hsx k (by rw [HVL.out];exact hlt)
   rw [<-hz] at hzc
   have hzp:z=phiV src s1 p:=by rw [hz,aH,aU,hp];rfl
   have hzw:=(HOF.out.cell2 (p:=⟨sb,so+k,none⟩) hsbl (HS2.out sb hsb.1)).trans hzc
   have HZ64:Hid (In64 z):=h! (by rw [hz,aH,aU,hp];exact HP2.out.v64 _)
   have HTK:=h! (pP (src:=src) (s:=s1) hp)
   rw [<-hzp] at HTK
   obtain ⟨sk,hsk⟩ : ∃ sk,sk=mC s1 ((x.phis.map fun p=>(p,phiV src s1 p)).take k):=⟨_,rfl⟩
   have HNX:Hid (mC s1 ((x.phis.map fun p=>(p,phiV src s1 p)).take (k+1))=setV sk p.id z):=h! (by rw [HTK.out,pV,hsk])
   rw [<-hsk] at HPK
   clear hzc hsx hz hzp hp hPC hsk hsb
   go_upto_region 12 with (fail)
   clear z0 z1 z2 z3
   have B12:Hid (Box (wr.alloc (.cells #[.int .i64 p.id,.int .i64 p.typ,.slice af p.src.length cf,.slice avp p.vals.length cvp] 113)) wr.heap.size #[.int .i64 p.id,.int .i64 p.typ,.slice af p.src.length cf,.slice avp p.vals.length cvp]):=h! (Box.new _ _ _)
   have hal:Below wr.heap.size wr (wr.alloc (.cells #[.int .i64 p.id,.int .i64 p.typ,.slice af p.src.length cf,.slice avp p.vals.length cvp] 113)):=(Below.refl _ _).alloc (aF _) _
   have HAL:=h! hal
   replace HPK:=h! (HPK.out.later hal)
   have hsbr:sb < wr.heap.size:=aL hsbl HOF.out.size
   have hsb3:=aL hsbr hal.size
   replace HOF:=h! (HOF.out.trans (Off.of_below hal _))
   have hzw3:=(hal.cell (p:=⟨sb,so+k,none⟩) hsbr).trans hzw
   clear hal hzw
   generalize wr.alloc (.cells #[.int .i64 p.id,.int .i64 p.typ,.slice af p.src.length cf,.slice avp p.vals.length cvp] 113)=w3 at *
   obtain ⟨lB12,cB12,fB12⟩:=B12.out
   refine wp_region_grow 10 (fun _=>.plain) (by kernel_rfl) (by kernel_rfl) ?_ (fun ν => ?_)
   ·exact fun _=>trivial
   simp only [aK,aR,aM,aT]
   iterate 10 (refine Grow.val (v := ?_) rfl rfl (fun wg hbg hdg => ?_) ?_;rotate_left;(focus ((obtain ⟨lg0,cg0,fg0⟩:=B12.out.later hbg);(obtain ⟨xl1,xc1,xf1⟩:=(HPK.out.later hbg).box;have hzg:=(hbg.cell (p:=⟨sb,so+k,none⟩) hsb3).trans hzw3);clear hbg hdg;first | (go_simp;done) | (go_simp;with_reducible rfl)));simp only [Act.put,aA,aC,aD])
   intro wg hb hf hap
   clear hap
   clear lB12 cB12 fB12
   replace B12:=h! (B12.out.later hb)
   replace HPK:=h! (HPK.out.later hb)
   obtain ⟨lB12,cB12,fB12⟩:=B12.out
   clear hf hzw3
   clear lB12 cB12 fB12
   replace HOF:=h! (HOF.out.trans (Off.of_below hb _))
   go_wp2_with (at_mapUpdate;refine fC (q:=.i64) (b:=mv) (mm:=mk) (y:=p.id) rfl _ _ _ _ (.inl rfl) Tryz.underlying74 Tryz.underlying3 rfl HPK.out.mp rfl ?_;intro w9 hm2 hz2 ht2;have HP9:=h! hm2;have HT9:=h! ht2;clear hm2 hz2 ht2)
   have HOT:=h! (oE HPK.out HT9.out)
   have HPN:=h! (HPK.out.put_val HOT.out (by have:=HB04.out.size;have:=HOF.out.size;have:=HW0.out;omega) HZ64.out HP9.out)
   go_roundw
   case rel=>exact ⟨k+1,_,hlt,by go_num,by rw [HNX.out];exact HPN.out,HOF.out.trans HOT.out⟩
   simp [intOf];omega
  obtain rfl:pl=k:=by omega
  have HALL:Hid (mC s1 ((x.phis.map fun p=>(p,phiV src s1 p)).take pl)=nC x src s1):=h! (by
   rw [aI (by rw [bD];have:=HPL.out;omega)];rfl)
  rw [HALL.out] at HPK
  obtain ⟨s2,hs2⟩ : ∃ s2,s2=nC x src s1:=⟨_,rfl⟩
  rw [<-hs2] at HPK HBLK
  have HG2:Hid (GoodS f fuel s2):=h! (by rw [hs2];exact HG1.out.phis HCH.out HX.out HSR.out)
  have HRA:Hid (aF4 base bs fuel w bm b7 D #[.slice api pl cpi,.slice aii cl cii,.int .i64 x.term.op,.int .i64 x.term.val,.slice ati tl cti,.int .i64 x.term.n] wr s2):=h! ⟨_,HPK.out.mach,HO4.out.trans (HOF.out.mono fun k _ hk=>HFD.out 4 k hk),fun k ⟨i,hi⟩=>.inl (HFD.out i k hi),fun ⟨i,hi⟩=>by have:=HDL.out _ (HFD.out i _ hi);omega,B7.out⟩
  obtain ⟨l7,c7,f7⟩:=B7.out
  clear HALL hs2 hlt hk HPK HOF HB0 B7
  go_wp2_with fail
  clear l7 c7 f7
  have HSTART:=HRA
  go_loopw [90] (fun i wr => ∃ (k:Nat) (s' : RunS),k <= cl/\i = .int .i64 k/\gQ fuel (x.code.take k) s2 = .go () s' /\ aF4 base bs fuel w bm b7 D #[.slice api pl cpi,.slice aii cl cii,.int .i64 x.term.op,.int .i64 x.term.val,.slice ati tl cti,.int .i64 x.term.n] wr s') (fun i _=>cl - (intOf i).toNat)
  case atStart=>exact ⟨0,s2,aP _,rfl,rfl,HSTART.out⟩
  obtain ⟨k,s',hk,rfl,hcode,D1,hm1,ho1,hd1,hb1,hB7⟩:=hrel
  clear HRA HSTART
  have HM1:=h! hm1
  have HO1:=h! ho1
  have HD1:=h! hd1
  have HN7:=h! hb1
  have B7:=h! hB7
  have HCODE:=h! hcode
  have HG3:Hid (GoodS f fuel s'):=h! (HG2.out.code HCH.out HXM.out (fun y hy=>dO hy) hcode)
  have HB0:Hid (Below w0.heap.size w0 wr):=h! (H0L.out.trans (ho1.below (by have:=HB.out;have:=HW0.out;omega) (fun q _ hq=>by have:=HDB.out q hq;have:=HW0.out;omega)))
  have hBr:base <= wr.heap.size:=aJ HB.out ho1.size
  clear hm1 ho1 hd1 hb1 hB7 hcode
  by_cases hlt:k < cl
  ·obtain ⟨rfl,hcbl⟩:=HCA.out (by omega)
   obtain ⟨y,hy⟩ : ∃ y,x.code[k]? = some y:=⟨_,aB (by have:=HCL.out;omega)⟩
   have HYM:=h! (aG hy)
   obtain ⟨aa,ca,hIC⟩:=HCX.out k y hy
   obtain ⟨z0,z1,z2,z3, -, -, -, -⟩:=hIC.below HB0.out hcbl
   have HAR:=h! hIC.args
   have HN64:=h! hIC.n64
   have HSN:Hid (gQ fuel (x.code.take (k+1)) s2=oneS fuel y s'):=h! (qC hy HCODE.out)
   clear hy hIC HCODE
   go_upto_region 17 with (fail)
   clear z0 z1 z2 z3
   have B14:Hid (Box (wr.alloc (.cells #[.int .i64 y.op,.int .i64 y.id,.slice aa y.args.length ca,.int .i64 y.n] 69)) wr.heap.size #[.int .i64 y.op,.int .i64 y.id,.slice aa y.args.length ca,.int .i64 y.n]):=h! (Box.new _ _ _)
   have hal:Below wr.heap.size wr (wr.alloc (.cells #[.int .i64 y.op,.int .i64 y.id,.slice aa y.args.length ca,.int .i64 y.n] 69)):=(Below.refl _ _).alloc (aF _) _
   obtain ⟨b14,hb14⟩ : ∃ b14,b14=wr.heap.size:=⟨_,rfl⟩
   have HN14:Hid (¬ D1 b14):=h! (fun h=>by have:=HM1.out.lt _ h;omega)
   have hb14w:w.heap.size <= b14:=by rw [hb14];exact HO1.out.size
   have hb14l:b14 < (wr.alloc (.cells #[.int .i64 y.op,.int .i64 y.id,.slice aa y.args.length ca,.int .i64 y.n] 69)).heap.size:=by have:=B14.out.lt;omega
   replace HM1:=h! (HM1.out.later hal)
   replace HO1:=h! (HO1.out.trans (Off.of_below hal _))
   replace B7:=h! (B7.out.later hal)
   replace HB0:=h! (HB0.out.trans (hal.mono HB0.out.size))
   replace hBr:=aJ hBr hal.size
   clear hal
   rw [<-hb14] at B14 ⊢
   generalize wr.alloc (.cells #[.int .i64 y.op,.int .i64 y.id,.slice aa y.args.length ca,.int .i64 y.n] 69)=w3 at *
   clear hb14
   go_wp2_with fail
   refine (aG9 HM1.out hfu HG3.out.stp).mono ?_
   rintro e w4 h9
   cases hstp:iL fuel s' with
   | over o s4 =>
    rw [hstp] at h9
    obtain ⟨rfl,hok⟩:=h9
    have HR:Hid (gP f fuel src at_ s = .over o s4):=h! (by
     have h8:=HSN.out
     unfold oneS at h8
     rw [hstp] at h8
     rw [HBLK.out,lX h8];rfl)
    have HOK:=h! (MOk.trans HO1.out HD1.out hok)
    clear hok hstp
    unfold jW
    go_wp2
    refine ⟨rfl, ?_⟩
    rw [HR.out]
    exact ⟨rfl,HOK.out⟩
   | go u s4 =>
    rw [hstp] at h9
    obtain ⟨rfl,D2,hm2,ho2,hd2⟩:=h9
    obtain ⟨hs4,hg4,hck4⟩:=HG3.out.step hstp
    have HFACT:=h! (hm2.facts)
    have HM2:=h! hm2
    have HG4:=h! hg4
    have HO2b:=h! ho2
    have HD2:=h! hd2
    have HSTP:=h! hstp
    have B14b:=h! (B14.out.off ho2 HN14.out)
    have HN14b:Hid (¬ D2 b14):=h! (fun h=>(hd2 _ h).elim HN14.out (fun h=>by omega))
    have hBr4:base <= w4.heap.size:=aJ hBr ho2.size
    have HB04b:Hid (Below w0.heap.size w0 w4):=h! (HB0.out.trans (ho2.below HB0.out.size (fun q _ hq=>by have:=HM1.out.base q hq;have:=HW0.out;omega)))
    have HCK:Hid (s4.checks+1 <= s4.steps):=h! hck4
    clear hm2 ho2 hd2 hg4 hs4 hstp hck4
    obtain ⟨l14,c14,f14⟩:=B14b.out
    go_wp2_with fail
    clear l14 c14 f14
    refine (aGR (ar:=f.arrays) (ce:=f.cells) HM2.out hBr4 (HG4.out.run hfu) (uZ HCH.out HXM.out HYM.out) ⟨_,rfl,HAR.out.below HB04b.out⟩).mono ?_
    rintro e w5 h9
    cases hin:fA y s4 with
    | over o s5 =>
     rw [hin] at h9
     obtain ⟨rfl,hok⟩:=h9
     have HR:Hid (gP f fuel src at_ s = .over o s5):=h! (by
      have h8:=HSN.out
      unfold oneS at h8
      rw [HSTP.out] at h8
      change _=(fA y s4).bind _ at h8
      rw [hin] at h8
      rw [HBLK.out,lX h8];rfl)
     have HOK:=h! (MOk.trans HO1.out HD1.out (MOk.trans HO2b.out HD2.out hok))
     clear hok hin
     unfold jW
     go_wp2
     refine ⟨rfl, ?_⟩
     rw [HR.out]
     exact ⟨rfl,HOK.out⟩
    | go v s5 =>
     rw [hin] at h9
     obtain ⟨rfl,D3,hm3,ho3,hd3⟩:=h9
     have HNX:Hid (gQ fuel (x.code.take (k+1)) s2 = .go () (putS y v s5)):=h! (by
      have h8:=HSN.out
      unfold oneS at h8
      rw [HSTP.out] at h8
      change _=(fA y s4).bind _ at h8
      rw [hin] at h8
      exact h8)
     have HV64a:Hid (In64 v):=h! (vA HN64.out HFACT.out.1 HFACT.out.2.1 HG4.out.len HFACT.out.2.2 hin)
     have HO5:Hid (Off D w w5):=h! (Off.grow (Off.grow HO1.out HO2b.out HD1.out) ho3 (fun q hq=>by
      rcases HD2.out q hq with h | h
      ·exact HD1.out q h
      exact .inr (aJ HO1.out.size h)))
     have HD5:Hid (∀ q,D3 q -> D q \/ w.heap.size <= q):=h! (fun q hq=>by
      rcases hd3 q hq with h | h
      ·rcases HD2.out q h with h | h
       ·exact HD1.out q h
       exact .inr (aJ HO1.out.size h)
      exact .inr (aJ (aJ HO1.out.size HO2b.out.size) h))
     have B75:=h! ((B7.out.off HO2b.out HN7.out).off ho3 (fun h=>(HD2.out _ h).elim HN7.out (fun h=>by have:=B7.out.lt;omega)))
     have HN75:Hid (¬ D3 b7):=h! (fun h=>(hd3 _ h).elim (fun h=>(HD2.out _ h).elim HN7.out (fun h=>by have:=B7.out.lt;omega)) (fun h=>by have:=B7.out.lt;have:=HO2b.out.size;omega))
     have B145:Hid (Box w5 b14 #[.int .i64 y.op,.int .i64 y.id,.slice aa y.args.length ca,.int .i64 y.n]):=h! (B14b.out.off ho3 HN14b.out)
     have HN145:Hid (¬ D3 b14):=h! (fun h=>(hd3 _ h).elim HN14b.out (fun h=>by have:=B14b.out.lt;omega))
     have hBr5:base <= w5.heap.size:=aJ hBr4 ho3.size
     obtain ⟨ov5,av5,vv5,cv5,mv5,m5,F5,hP5,hD5⟩:=hm3
     have HP5:=h! hP5
     have HDF5:=h! hD5
     clear ho3 hd3 hin hP5 hD5
     cases hid:decide (0 <= y.id)
     ·have HPUT:Hid (putS y v s5=s5):=h! (by unfold putS;rw [if_neg (by simpa using hid)])
      obtain ⟨l14,c14,f14⟩:=B145.out
      go_wp2
      go_roundw
      case rel=>exact ⟨k+1,s5,hlt,by go_num,by rw [HNX.out,HPUT.out],D3,⟨ov5,av5,vv5,cv5,mv5,m5,F5,HP5.out,HDF5.out⟩,HO5.out,HD5.out,HN75.out,B75.out⟩
      simp [intOf];omega
     have HPUT:Hid (putS y v s5=setV s5 y.id v):=h! (by unfold putS;rw [if_pos (by simpa using hid)])
     have HV64:=HV64a
     obtain ⟨lB145,cB145,fB145⟩:=B145.out
     go_upto_region 20 with (fail)
     refine wp_region_grow 7 (fun _=>.plain) (by kernel_rfl) (by kernel_rfl) ?_ (fun ν => ?_)
     ·exact fun _=>trivial
     simp only [aK,aR,aM,aT]
     iterate 7 (refine Grow.val (v := ?_) rfl rfl (fun wg hbg hdg => ?_) ?_;rotate_left;(focus ((obtain ⟨lg0,cg0,fg0⟩:=B145.out.later hbg);(obtain ⟨xl1,xc1,xf1⟩:=(HP5.out.later hbg).box);clear hbg hdg;first | (go_simp;done) | (go_simp;with_reducible rfl)));simp only [Act.put,aA,aC,aD])
     intro wg hb hf hap
     clear hap
     clear lB145 cB145 fB145
     replace B145:=h! (B145.out.later hb)
     replace HP5:=h! (HP5.out.later hb)
     obtain ⟨lB145,cB145,fB145⟩:=B145.out
     clear hf hid
     clear lB145 cB145 fB145
     go_wp2_with (at_mapUpdate;refine fC (q:=.i64) (b:=mv5) (mm:=m5) (y:=y.id) rfl _ _ _ _ (.inl rfl) Tryz.underlying74 Tryz.underlying3 rfl HP5.out.mp rfl ?_;intro w9 hm2 hz2 ht2;have HP9:=h! hm2;have HT9:=h! ht2;clear hm2 hz2 ht2)
     have HOT:=h! (oE HP5.out HT9.out)
     have HPN:=h! (HP5.out.put_val HOT.out (aJ hBr5 hb.size) HV64.out HP9.out)
     have HOTD:Hid (Off D3 w5 w9):=h! ((Off.of_below hb D3).trans (HOT.out.mono fun q _ hq=>(HDF5.out q).2 ⟨4,hq⟩))
     have B79:=h! (B75.out.off HOTD.out HN75.out)
     have HO9:Hid (Off D w w9):=h! (Off.grow HO5.out HOTD.out HD5.out)
     go_roundw
     case rel=>exact ⟨k+1,setV s5 y.id v,hlt,by go_num,by rw [HNX.out,HPUT.out],D3,⟨ov5,av5,vv5,cv5,mv5,_,F5,HPN.out,HDF5.out⟩,HO9.out,HD5.out,HN75.out,B79.out⟩
     simp [intOf];omega
  obtain rfl:cl=k:=by omega
  have HCODE2:Hid (gQ fuel x.code s2 = .go () s'):=h! (by
   have h8:=HCODE.out
   rw [aI (by have:=HCL.out;omega)] at h8
   exact h8)
  have hs7:wr.heap.size <= wr.heap.size:=aF _
  clear HCODE hlt hk
  go_wp2_with fail
  refine (aG9 HM1.out hfu HG3.out.stp).mono ?_
  rintro e w4 h9
  cases hstp:iL fuel s' with
  | over o s4 =>
   rw [hstp] at h9
   obtain ⟨rfl,hok⟩:=h9
   have HR:Hid (gP f fuel src at_ s = .over o s4):=h! (by
    rw [HBLK.out,HCODE2.out]
    show (iL fuel s').bind _=_
    rw [hstp];rfl)
   have HOK:=h! (MOk.trans HO1.out HD1.out hok)
   clear hok hstp
   unfold jW
   go_wp2
   refine ⟨rfl, ?_⟩
   rw [HR.out]
   exact ⟨rfl,HOK.out⟩
  | go u s4 =>
   rw [hstp] at h9
   obtain ⟨rfl,D2,hm2,ho2,hd2⟩:=h9
   obtain ⟨hs4,hg4,hck4⟩:=HG3.out.step hstp
   have HR:Hid (gP f fuel src at_ s=endR x.term s4):=h! (by
    rw [HBLK.out,HCODE2.out]
    show (iL fuel s').bind _=_
    rw [hstp];rfl)
   have HG4:=h! hg4
   have HO4b:Hid (Off D w w4):=h! (Off.grow HO1.out ho2 HD1.out)
   have HD4:Hid (∀ q,D2 q -> D q \/ w.heap.size <= q):=h! (fun q hq=>by
    rcases hd2 q hq with h | h
    ·exact HD1.out q h
    exact .inr (aJ HO1.out.size h))
   have B74b:=h! (B7.out.off ho2 HN7.out)
   have HB04b:Hid (Below w0.heap.size w0 w4):=h! (HB0.out.trans (ho2.below HB0.out.size (fun q _ hq=>by have:=HM1.out.base q hq;have:=HW0.out;omega)))
   obtain ⟨ov5,av5,vv5,cv5,mv5,m5,F5,hP5,hD5⟩:=hm2
   have HP5:=h! hP5
   have HDF5:=h! hD5
   clear ho2 hd2 hstp hP5 hD5 hg4 hs4 hck4 HCODE2 HM1 HO1 HD1 HN7 B7 HG3 HB0
   have HE4:=h! (uJ HCH.out HXM.out)
   obtain ⟨l7,c7,f7⟩:=B74b.out
   go_upto_region 24 with (fail)
   clear l7 c7 f7
   have hal:Below w4.heap.size w4 (w4.alloc (.cells #[.int .i64 x.term.op,.int .i64 x.term.val,.slice ati tl cti,.int .i64 x.term.n] 48)):=(Below.refl _ _).alloc (aF _) _
   have B16:Hid (Box (w4.alloc (.cells #[.int .i64 x.term.op,.int .i64 x.term.val,.slice ati tl cti,.int .i64 x.term.n] 48)) w4.heap.size #[.int .i64 x.term.op,.int .i64 x.term.val,.slice ati tl cti,.int .i64 x.term.n]):=h! (Box.new _ _ _)
   replace HP5:=h! (HP5.out.later hal)
   replace HO4b:=h! (HO4b.out.trans (Off.of_below hal _))
   replace HB04b:=h! (HB04b.out.trans (hal.mono HB04b.out.size))
   clear hal B74b
   generalize w4.alloc (.cells #[.int .i64 x.term.op,.int .i64 x.term.val,.slice ati tl cti,.int .i64 x.term.n] 48)=w6 at *
   have HTO:=h! (HC.out.to.below HB04b.out)
   rw [<-HTL.out] at HTO
   have HMO:Hid (∀ W,Below w6.heap.size w6 W -> MOk base bs fuel w bm D s4 W):=h! (fun W hb=>⟨D2,⟨ov5,av5,vv5,cv5,mv5,m5,F5,HP5.out.later hb,HDF5.out⟩,HO4b.out.trans (Off.of_below hb D),HD4.out⟩)
   have HLK:Hid (∀ wg,Below w6.heap.size w6 wg -> (Instr.lookup 74 (.map (some mv5)) (.int .i64 x.term.val) false).run Tryz.prog wg = .ok (.int .i64 (s4.vals x.term.val)) wg):=h! (fun wg hbg=>by
    rw [((HP5.out.later hbg).mp).lookup0 Tryz.underlying74 Tryz.underlying3 (gT _) x.term.val,HP5.out.val x.term.val])
   have HFL:Hid (x.term.op=2 -> s4.vals x.term.val=0 \/ s4.vals x.term.val=1):=h! (fun h2=>HG4.out.flag _ (nZ HCH.out (lU HXM.out h2) (by simp)))
   obtain ⟨top,htop⟩ : ∃ top,top=x.term.op:=⟨_,rfl⟩
   obtain ⟨tv,htv⟩ : ∃ tv,tv=x.term.val:=⟨_,rfl⟩
   obtain ⟨tn,htn⟩ : ∃ tn,tn=x.term.n:=⟨_,rfl⟩
   obtain ⟨z,hz⟩ : ∃ z,z=s4.vals x.term.val:=⟨_,rfl⟩
   have HEND:Hid (endR x.term s4=if top=3 then .over ⟨1,z,0⟩ s4 else if top=4 then .over ⟨2,0,tn⟩ s4 else if top=2 then .go (x.term.to.getD (1 - z).toNat 0) s4 else .go (x.term.to.getD 0 0) s4):=h! (by rw [htop,htn,hz];rfl)
   rw [<-hz, <-htv] at HLK
   rw [<-htop, <-hz] at HFL
   have HEK:Hid ((top=1/\tl=1) \/ (top=2/\tl=2) \/ top=3 \/ top=4):=h! (by
    have h9:=HE4.out
    unfold gS at h9
    simp only [aN,bQ,beq_iff_eq] at h9
    rw [htop,HTL.out]
    rcases h9.2 with ((h8 | h8) | h8) | h8
    ·exact .inl ⟨h8.1.1.1,h8.1.1.2⟩
    ·exact .inr (.inl ⟨h8.1.1,h8.1.2⟩)
    ·exact .inr (.inr (.inl h8.1.1))
    exact .inr (.inr (.inr h8.1.1.1)))
   rw [<-htop, <-htv, <-htn] at B16 ⊢
   obtain ⟨lB16,cB16,fB16⟩:=B16.out
   clear htop htv htn hz
   have hwr1:IntKind.i64.wrap 1=1:=by decide
   have hwr0:IntKind.i64.wrap 0=0:=by decide
   rcases HEK.out with ⟨rfl,rfl⟩ | ⟨rfl,rfl⟩ | rfl | rfl
   ·obtain ⟨tb,to_,tc,hte,htb,htx⟩:=fK HTO.out (by rw [<-HTL.out];omega)
    rw [<-HTL.out] at hte
    cases hte
    have ht0:=htx 0 (by rw [<-HTL.out];omega)
    rw [bW] at ht0
    obtain ⟨q,hq⟩ : ∃ q,q=x.term.to.getD 0 0:=⟨_,rfl⟩
    have HR2:Hid (endR x.term s4 = .go q s4):=h! (by rw [HEND.out,hq];rfl)
    rw [<-hq] at ht0
    clear htx hq
    go_wp2
    go_ret
    rw [HR.out,HR2.out]
    exact ⟨rfl,HMO.out _ (Below.refl _ _)⟩
   ·obtain ⟨tb,to_,tc,hte,htb,htx⟩:=fK HTO.out (by rw [<-HTL.out];omega)
    rw [<-HTL.out] at hte
    cases hte
    have ht0:=htx 0 (by rw [<-HTL.out];omega)
    have ht1:=htx 1 (by rw [<-HTL.out];omega)
    rw [bW] at ht0
    obtain ⟨q0,hq0⟩ : ∃ q,q=x.term.to.getD 0 0:=⟨_,rfl⟩
    obtain ⟨q1,hq1⟩ : ∃ q,q=x.term.to.getD 1 0:=⟨_,rfl⟩
    rcases HFL.out rfl with rfl | rfl
    ·have HR2:Hid (endR x.term s4 = .go q1 s4):=h! (by rw [HEND.out,hq1];rfl)
     rw [<-hq1] at ht1
     clear htx hq1 hq0 ht0
     go_upto_region 30 with (fail)
     refine wp_region_grow 13 (fun _=>.plain) (by kernel_rfl) (by kernel_rfl) ?_ (fun ν => ?_)
     ·exact fun _=>trivial
     simp only [aK,aR,aM,aT]
     iterate 13 (refine Grow.val (v := ?_) rfl rfl (fun wg hbg hdg => ?_) ?_;rotate_left;(focus ((obtain ⟨lg0,cg0,fg0⟩:=B16.out.later hbg);(obtain ⟨xl1,xc1,xf1⟩:=(HP5.out.later hbg).box;have hlk:=HLK.out wg hbg;have htg:=(hbg.cell (p:=⟨tb,to_+1,none⟩) htb).trans ht1);clear hbg hdg;first | (go_simp;done) | (go_simp;with_reducible rfl)));simp only [Act.put,aA,aC,aD])
     intro wg hb hf hap
     clear hap
     clear lB16 cB16 fB16
     replace B16:=h! (B16.out.later hb)
     replace HP5:=h! (HP5.out.later hb)
     obtain ⟨lB16,cB16,fB16⟩:=B16.out
     clear hf
     go_wp2
     go_ret
     rw [HR.out,HR2.out]
     exact ⟨rfl,HMO.out _ hb⟩
    have HR2:Hid (endR x.term s4 = .go q0 s4):=h! (by rw [HEND.out,hq0];rfl)
    rw [<-hq0] at ht0
    clear htx hq1 hq0 ht1
    go_upto_region 30 with (fail)
    refine wp_region_grow 13 (fun _=>.plain) (by kernel_rfl) (by kernel_rfl) ?_ (fun ν => ?_)
    ·exact fun _=>trivial
    simp only [aK,aR,aM,aT]
    iterate 13 (refine Grow.val (v := ?_) rfl rfl (fun wg hbg hdg => ?_) ?_;rotate_left;(focus ((obtain ⟨lg0,cg0,fg0⟩:=B16.out.later hbg);(obtain ⟨xl1,xc1,xf1⟩:=(HP5.out.later hbg).box;have hlk:=HLK.out wg hbg;have htg:=(hbg.cell (p:=⟨tb,to_,none⟩) htb).trans ht0);clear hbg hdg;first | (go_simp;done) | (go_simp;with_reducible rfl)));simp only [Act.put,aA,aC,aD])
    intro wg hb hf hap
    clear hap
    clear lB16 cB16 fB16
    replace B16:=h! (B16.out.later hb)
    replace HP5:=h! (HP5.out.later hb)
    obtain ⟨lB16,cB16,fB16⟩:=B16.out
    clear hf
    go_wp2
    go_ret
    rw [HR.out,HR2.out]
    exact ⟨rfl,HMO.out _ hb⟩
   ·have HR2:Hid (endR x.term s4 = .over ⟨1,z,0⟩ s4):=h! (by rw [HEND.out];rfl)
    go_upto_region 26 with (fail)
    refine wp_region_grow 9 (fun _=>.plain) (by kernel_rfl) (by kernel_rfl) ?_ (fun ν => ?_)
    ·exact fun _=>trivial
    simp only [aK,aR,aM,aT]
    iterate 9 (refine Grow.val (v := ?_) rfl rfl (fun wg hbg hdg => ?_) ?_;rotate_left;(focus ((obtain ⟨lg0,cg0,fg0⟩:=B16.out.later hbg);(obtain ⟨xl1,xc1,xf1⟩:=(HP5.out.later hbg).box;have hlk:=HLK.out wg hbg);clear hbg hdg;first | (go_simp;done) | (go_simp;with_reducible rfl)));simp only [Act.put,aA,aC,aD])
    intro wg hb hf hap
    clear hap
    clear lB16 cB16 fB16
    replace B16:=h! (B16.out.later hb)
    replace HP5:=h! (HP5.out.later hb)
    obtain ⟨lB16,cB16,fB16⟩:=B16.out
    clear hf
    go_wp2
    refine ⟨rfl, ?_⟩
    rw [HR.out,HR2.out]
    exact ⟨rfl,HMO.out _ hb⟩
   have HR2:Hid (endR x.term s4 = .over ⟨2,0,tn⟩ s4):=h! (by rw [HEND.out];rfl)
   go_wp2_with fail
   refine (aCO tn).mono ?_
   rintro e w7 ⟨rfl,hb⟩
   unfold jW
   go_wp2
   refine ⟨rfl, ?_⟩
   rw [HR.out,HR2.out]
   exact ⟨rfl,HMO.out _ hb⟩
end Go.Proofs.YtcmflfkpeodicaaGreat
