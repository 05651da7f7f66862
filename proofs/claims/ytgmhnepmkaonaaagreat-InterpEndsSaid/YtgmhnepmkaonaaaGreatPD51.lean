/- Part 51. -/
import Derived.Test.YtgmhnepmkaonaaaGreatPD50
namespace Go.Proofs.YtgmhnepmkaonaaaGreat
set_option linter.unusedSimpArgs false
set_option linter.unusedVariables false
open Go.RowKit
theorem runP_one {f:FuncD} {i:InputD} {fuel:Int} {s t:TraceD} (h:RunP f i fuel s) (k:RunP f i fuel t):s=t:=by
 rcases h with ⟨rfl,hn⟩ | ⟨hc,hF,h0,o,s1,hr,rfl⟩
 ·rcases k with ⟨rfl, -⟩ | ⟨hc,hF,h0, -⟩
  ·rfl
  ·exact absurd ⟨hc,hF,h0⟩ hn
 ·rcases k with ⟨-,hn⟩ | ⟨-, -, -,o2,s2,hr2,rfl⟩
  ·exact absurd ⟨hc,hF,h0⟩ hn
  ·obtain ⟨rfl,rfl⟩:=hr.one hr2
   rfl
def TrV (W:World) (v:Value) (t:TraceD):Prop:=TraceV W v t
theorem TrV.later {W W' : World} {v:Value} {t:TraceD} (h:TrV W v t) (hb:Below W.heap.size W W'):TrV W' v t:=TraceV.below h hb
theorem TrV.alloc {W:World} {v:Value} {t:TraceD} (h:TrV W v t) (o:Obj):TrV (W.alloc o) v t:=h.later ((Below.refl _ _).alloc (Nat.le_refl _) o)
private theorem Since.alloc {w0 W:World} (h:Since w0 W) (o:Obj):Since w0 (W.alloc o):=h.later ((Below.refl _ _).alloc (Nat.le_refl _) o)
structure EndsP (f:FuncD) (i:InputD) (m:Nat) (t:TraceD):Prop where
 how:t.how ≠ 6/\1 <= t.how/\t.how <= 5
 steps:0 <= t.steps/\t.steps <= m
 sum:(t.out.length:Int)+t.checks <= t.steps/\0 <= t.checks
 arrays:(t.arrays.length:Int)=f.arrays/\t.arrays.length <= 8
 trap:t.how=2 \/ t.trap=0
 value:t.how=1 \/ t.value=0
 each:∀ k:Nat,k < t.arrays.length -> (t.arrays.getD k []).length=min (i.arrays.getD k []).length 4096
theorem ends_parts {f:FuncD} {i:InputD} {m:Nat} {t:TraceD} (hm:m < 2000) (h:RunP f i (m:Int) t):(t=refusedT /\ ¬ (checkF f=0/\FaultR f 0 0)) \/ EndsP f i m t:=by
 rcases ends_law ⟨by omega,by omega⟩ h with h1 | ⟨h1,h2,h3,h4,h5,h6,h7,h8,h9,h10,h11⟩
 ·exact .inl h1
 ·right
  have hc:checkF f=0:=by
   rcases h with ⟨rfl, -⟩ | ⟨hc, -⟩
   ·exact absurd rfl h1
   ·exact hc
  obtain ⟨k1, -⟩:=check_zero.1 hc
  unfold headOk at k1
  simp only [Bool.and_eq_true,decide_eq_true_eq] at k1
  exact ⟨⟨h1,h2,h3⟩,⟨h4,h5⟩,⟨h6,h7⟩,⟨by omega,by omega⟩,h9,h10,h11⟩
set_option maxHeartbeats 12800000 in
set_option maxRecDepth 100000 in
theorem walkEnds {w:World} {v u:Value} (f:FuncD) (i:InputD) {a:Int} (hv:FuncV w v f) (hi:InputV w u i) (ha:0 <= a/\a <= 65535) :
  Calls Tryz.prog 7 #[v,u,.int .u16 a] w fun e w'=>e = .returned (.bool true)/\Below w.heap.size w w':=by
 have HV:=hd hv
 have HI:=hd hi
 obtain ⟨ap,cp,ab,cb,rfl, -, -, -, -⟩:=hv.form
 obtain ⟨ua,ub,rfl,hua,hub⟩:=hi
 obtain ⟨aa,ca,rfl⟩:=hua.form
 have HUB:=hd hub
 obtain ⟨_,b5,c5,_,_,rfl, -, -, -, -, -, -⟩:=hub.parts
 obtain ⟨an,rfl⟩ : ∃ an:Nat,a=(an:Int):=⟨a.toNat,by omega⟩
 obtain ⟨m,hm⟩ : ∃ m,m=an % 2000:=⟨_,rfl⟩
 have rm:Int.tmod (an:Int) 2000=(m:Int):=by rw [hm];rfl
 have hm2:m < 2000:=by omega
 clear hua hub hv hm
 go_enter Tryz.func7,Tryz.ntmps7
 go_upto_region 1 with (fail)
 have B3:Hid (Box ((w.alloc (.cells #[.slice ap f.params.length cp,.int .i64 f.arrays,.int .i64 f.cells,.slice ab f.blocks.length cb] 25)).alloc (.cells #[.slice aa i.args.length ca,.slice b5 i.arrays.length c5] 44)) (w.heap.size) #[.slice ap f.params.length cp,.int .i64 f.arrays,.int .i64 f.cells,.slice ab f.blocks.length cb]):=hd (by simpa using ((Box.new w #[.slice ap f.params.length cp,.int .i64 f.arrays,.int .i64 f.cells,.slice ab f.blocks.length cb] 25).alloc _))
 have B4:Hid (Box ((w.alloc (.cells #[.slice ap f.params.length cp,.int .i64 f.arrays,.int .i64 f.cells,.slice ab f.blocks.length cb] 25)).alloc (.cells #[.slice aa i.args.length ca,.slice b5 i.arrays.length c5] 44)) (w.heap.size+1) #[.slice aa i.args.length ca,.slice b5 i.arrays.length c5]):=hd (by simpa using (Box.new (w.alloc (.cells #[.slice ap f.params.length cp,.int .i64 f.arrays,.int .i64 f.cells,.slice ab f.blocks.length cb] 25)) #[.slice aa i.args.length ca,.slice b5 i.arrays.length c5] 44))
 have HW:Hid (Below w.heap.size w ((w.alloc (.cells #[.slice ap f.params.length cp,.int .i64 f.arrays,.int .i64 f.cells,.slice ab f.blocks.length cb] 25)).alloc (.cells #[.slice aa i.args.length ca,.slice b5 i.arrays.length c5] 44))):=hd (((Below.refl _ _).alloc (Nat.le_refl _) _).alloc (by simp) _)
 generalize ((w.alloc (.cells #[.slice ap f.params.length cp,.int .i64 f.arrays,.int .i64 f.cells,.slice ab f.blocks.length cb] 25)).alloc (.cells #[.slice aa i.args.length ca,.slice b5 i.arrays.length c5] 44))=wv at *
 obtain ⟨lB3,cB3,fB3⟩:=B3.out
 obtain ⟨lB4,cB4,fB4⟩:=B4.out
 go_wp2_with fail
 refine (runC (fuel:=(m:Int)) (HV.out.below HW.out) (HI.out.below HW.out) ⟨by omega,by omega⟩).mono ?_
 rintro e w2 ⟨vt,t,rfl,hp,ht,hb⟩
 have HT:Hid (TrV w2 vt t):=hd ht
 obtain ⟨ov,av,vv,rfl,ho,ha2,hv2⟩:=ht
 obtain ⟨b1,c1,rfl⟩:=ho.form
 obtain ⟨b3,c3,rfl⟩:=hv2.form
 obtain ⟨_,b6,c6,_,_,rfl, -, -, -, -, -, -⟩:=ha2.parts
 have HP:=hd hp
 have HAV:=hd ha2
 have H22:Hid (Since w2 w2):=hd (Below.refl _ _)
 clear ho ha2 hv2 hp rm
 clear lB3 cB3 fB3 lB4 cB4 fB4
 replace B3:=hd (B3.out.later hb)
 replace B4:=hd (B4.out.later hb)
 replace HW:=hd (HW.out.trans (hb.mono HW.out.size))
 clear hb
 obtain ⟨lB3,cB3,fB3⟩:=B3.out
 obtain ⟨lB4,cB4,fB4⟩:=B4.out
 go_upto_region 3 with (fail)
 have nB8B3:w2.heap.size ≠ w.heap.size:=fun e=>by have:=lB3;omega
 have nB3B8:w.heap.size ≠ w2.heap.size:=fun e=>nB8B3 e.symm
 have nB8B4:w2.heap.size ≠ w.heap.size+1:=fun e=>by have:=lB4;omega
 have nB4B8:w.heap.size+1 ≠ w2.heap.size:=fun e=>nB8B4 e.symm
 have B3_:Box (w2.alloc (.cells #[.int .i64 t.how,.int .i64 t.value,.int .i64 t.trap,.slice b1 t.out.length c1,.slice b6 t.arrays.length c6,.int .i64 t.steps,.int .i64 t.checks,.slice b3 t.visits.length c3] 49)) (w.heap.size) #[.slice ap f.params.length cp,.int .i64 f.arrays,.int .i64 f.cells,.slice ab f.blocks.length cb]:=by simpa using (B3.out.alloc _)
 have B4_:Box (w2.alloc (.cells #[.int .i64 t.how,.int .i64 t.value,.int .i64 t.trap,.slice b1 t.out.length c1,.slice b6 t.arrays.length c6,.int .i64 t.steps,.int .i64 t.checks,.slice b3 t.visits.length c3] 49)) (w.heap.size+1) #[.slice aa i.args.length ca,.slice b5 i.arrays.length c5]:=by simpa using (B4.out.alloc _)
 have B8_:Box (w2.alloc (.cells #[.int .i64 t.how,.int .i64 t.value,.int .i64 t.trap,.slice b1 t.out.length c1,.slice b6 t.arrays.length c6,.int .i64 t.steps,.int .i64 t.checks,.slice b3 t.visits.length c3] 49)) (w2.heap.size) #[.int .i64 t.how,.int .i64 t.value,.int .i64 t.trap,.slice b1 t.out.length c1,.slice b6 t.arrays.length c6,.int .i64 t.steps,.int .i64 t.checks,.slice b3 t.visits.length c3]:=by simpa using (Box.new w2 #[.int .i64 t.how,.int .i64 t.value,.int .i64 t.trap,.slice b1 t.out.length c1,.slice b6 t.arrays.length c6,.int .i64 t.steps,.int .i64 t.checks,.slice b3 t.visits.length c3] 49)
 have HT_:=(HT.out.alloc (.cells #[.int .i64 t.how,.int .i64 t.value,.int .i64 t.trap,.slice b1 t.out.length c1,.slice b6 t.arrays.length c6,.int .i64 t.steps,.int .i64 t.checks,.slice b3 t.visits.length c3] 49))
 have H22_:=(H22.out.alloc (.cells #[.int .i64 t.how,.int .i64 t.value,.int .i64 t.trap,.slice b1 t.out.length c1,.slice b6 t.arrays.length c6,.int .i64 t.steps,.int .i64 t.checks,.slice b3 t.visits.length c3] 49))
 have HW_:Below w.heap.size w (w2.alloc (.cells #[.int .i64 t.how,.int .i64 t.value,.int .i64 t.trap,.slice b1 t.out.length c1,.slice b6 t.arrays.length c6,.int .i64 t.steps,.int .i64 t.checks,.slice b3 t.visits.length c3] 49)):=(HW.out.alloc (by first | exact Nat.le_refl _ | exact HW.out.size | (simp only [World.size_alloc,World.size_setCell];have:=HW.out.size;omega)) _)
 clear lB3 cB3 fB3 lB4 cB4 fB4
 clear B3 B4 HT H22 HW
 generalize (w2.alloc (.cells #[.int .i64 t.how,.int .i64 t.value,.int .i64 t.trap,.slice b1 t.out.length c1,.slice b6 t.arrays.length c6,.int .i64 t.steps,.int .i64 t.checks,.slice b3 t.visits.length c3] 49))=w5 at *
 have B3:=hd B3_
 clear B3_
 have B4:=hd B4_
 clear B4_
 have B8:=hd B8_
 clear B8_
 have HT:=hd HT_
 clear HT_
 have H22:=hd H22_
 clear H22_
 have HW:=hd HW_
 clear HW_
 obtain ⟨lB3,cB3,fB3⟩:=B3.out
 obtain ⟨lB4,cB4,fB4⟩:=B4.out
 obtain ⟨lB8,cB8,fB8⟩:=B8.out
 go_wp2_with fail
 refine (runC (fuel:=(m:Int)) (HV.out.below HW.out) (HI.out.below HW.out) ⟨by omega,by omega⟩).mono ?_
 rintro e w6 ⟨vu,u,rfl,hq,hu,hb⟩
 obtain rfl:=runP_one HP.out hq
 have HU:Hid (TrV w6 vu t):=hd hu
 obtain ⟨ov,av,vv,rfl,ho,ha2,hv2⟩:=hu
 obtain ⟨d1,e1,rfl⟩:=ho.form
 obtain ⟨d3,e3,rfl⟩:=hv2.form
 obtain ⟨_,d6,e6,_,_,rfl, -, -, -, -, -, -⟩:=ha2.parts
 clear ho ha2 hv2 hq
 clear lB3 cB3 fB3 lB4 cB4 fB4 lB8 cB8 fB8
 replace B3:=hd (B3.out.later hb)
 replace B4:=hd (B4.out.later hb)
 replace B8:=hd (B8.out.later hb)
 replace HT:=hd (HT.out.later hb)
 replace H22:=hd (H22.out.later hb)
 replace HW:=hd (HW.out.trans (hb.mono HW.out.size))
 clear hb
 obtain ⟨lB3,cB3,fB3⟩:=B3.out
 obtain ⟨lB4,cB4,fB4⟩:=B4.out
 obtain ⟨lB8,cB8,fB8⟩:=B8.out
 go_upto_region 4 with (fail)
 have nB9B3:w6.heap.size ≠ w.heap.size:=fun e=>by have:=lB3;omega
 have nB3B9:w.heap.size ≠ w6.heap.size:=fun e=>nB9B3 e.symm
 have nB9B4:w6.heap.size ≠ w.heap.size+1:=fun e=>by have:=lB4;omega
 have nB4B9:w.heap.size+1 ≠ w6.heap.size:=fun e=>nB9B4 e.symm
 have nB9B8:w6.heap.size ≠ w2.heap.size:=fun e=>by have:=lB8;omega
 have nB8B9:w2.heap.size ≠ w6.heap.size:=fun e=>nB9B8 e.symm
 have B3_:Box (w6.alloc (.cells #[.int .i64 t.how,.int .i64 t.value,.int .i64 t.trap,.slice d1 t.out.length e1,.slice d6 t.arrays.length e6,.int .i64 t.steps,.int .i64 t.checks,.slice d3 t.visits.length e3] 49)) (w.heap.size) #[.slice ap f.params.length cp,.int .i64 f.arrays,.int .i64 f.cells,.slice ab f.blocks.length cb]:=by simpa using (B3.out.alloc _)
 have B4_:Box (w6.alloc (.cells #[.int .i64 t.how,.int .i64 t.value,.int .i64 t.trap,.slice d1 t.out.length e1,.slice d6 t.arrays.length e6,.int .i64 t.steps,.int .i64 t.checks,.slice d3 t.visits.length e3] 49)) (w.heap.size+1) #[.slice aa i.args.length ca,.slice b5 i.arrays.length c5]:=by simpa using (B4.out.alloc _)
 have B8_:Box (w6.alloc (.cells #[.int .i64 t.how,.int .i64 t.value,.int .i64 t.trap,.slice d1 t.out.length e1,.slice d6 t.arrays.length e6,.int .i64 t.steps,.int .i64 t.checks,.slice d3 t.visits.length e3] 49)) (w2.heap.size) #[.int .i64 t.how,.int .i64 t.value,.int .i64 t.trap,.slice b1 t.out.length c1,.slice b6 t.arrays.length c6,.int .i64 t.steps,.int .i64 t.checks,.slice b3 t.visits.length c3]:=by simpa using (B8.out.alloc _)
 have B9_:Box (w6.alloc (.cells #[.int .i64 t.how,.int .i64 t.value,.int .i64 t.trap,.slice d1 t.out.length e1,.slice d6 t.arrays.length e6,.int .i64 t.steps,.int .i64 t.checks,.slice d3 t.visits.length e3] 49)) (w6.heap.size) #[.int .i64 t.how,.int .i64 t.value,.int .i64 t.trap,.slice d1 t.out.length e1,.slice d6 t.arrays.length e6,.int .i64 t.steps,.int .i64 t.checks,.slice d3 t.visits.length e3]:=by simpa using (Box.new w6 #[.int .i64 t.how,.int .i64 t.value,.int .i64 t.trap,.slice d1 t.out.length e1,.slice d6 t.arrays.length e6,.int .i64 t.steps,.int .i64 t.checks,.slice d3 t.visits.length e3] 49)
 have HT_:=(HT.out.alloc (.cells #[.int .i64 t.how,.int .i64 t.value,.int .i64 t.trap,.slice d1 t.out.length e1,.slice d6 t.arrays.length e6,.int .i64 t.steps,.int .i64 t.checks,.slice d3 t.visits.length e3] 49))
 have HU_:=(HU.out.alloc (.cells #[.int .i64 t.how,.int .i64 t.value,.int .i64 t.trap,.slice d1 t.out.length e1,.slice d6 t.arrays.length e6,.int .i64 t.steps,.int .i64 t.checks,.slice d3 t.visits.length e3] 49))
 have H22_:=(H22.out.alloc (.cells #[.int .i64 t.how,.int .i64 t.value,.int .i64 t.trap,.slice d1 t.out.length e1,.slice d6 t.arrays.length e6,.int .i64 t.steps,.int .i64 t.checks,.slice d3 t.visits.length e3] 49))
 have HW_:Below w.heap.size w (w6.alloc (.cells #[.int .i64 t.how,.int .i64 t.value,.int .i64 t.trap,.slice d1 t.out.length e1,.slice d6 t.arrays.length e6,.int .i64 t.steps,.int .i64 t.checks,.slice d3 t.visits.length e3] 49)):=(HW.out.alloc (by first | exact Nat.le_refl _ | exact HW.out.size | (simp only [World.size_alloc,World.size_setCell];have:=HW.out.size;omega)) _)
 clear lB3 cB3 fB3 lB4 cB4 fB4 lB8 cB8 fB8
 clear B3 B4 B8 HT HU H22 HW
 generalize (w6.alloc (.cells #[.int .i64 t.how,.int .i64 t.value,.int .i64 t.trap,.slice d1 t.out.length e1,.slice d6 t.arrays.length e6,.int .i64 t.steps,.int .i64 t.checks,.slice d3 t.visits.length e3] 49))=w7 at *
 have B3:=hd B3_
 clear B3_
 have B4:=hd B4_
 clear B4_
 have B8:=hd B8_
 clear B8_
 have B9:=hd B9_
 clear B9_
 have HT:=hd HT_
 clear HT_
 have HU:=hd HU_
 clear HU_
 have H22:=hd H22_
 clear H22_
 have HW:=hd HW_
 clear HW_
 obtain ⟨lB3,cB3,fB3⟩:=B3.out
 obtain ⟨lB4,cB4,fB4⟩:=B4.out
 obtain ⟨lB8,cB8,fB8⟩:=B8.out
 obtain ⟨lB9,cB9,fB9⟩:=B9.out
 go_wp2_with fail
 refine awake6.mono ?_
 rintro e w8 ⟨rfl,hb⟩
 clear lB3 cB3 fB3 lB4 cB4 fB4 lB8 cB8 fB8 lB9 cB9 fB9
 replace B3:=hd (B3.out.later hb)
 replace B4:=hd (B4.out.later hb)
 replace B8:=hd (B8.out.later hb)
 replace B9:=hd (B9.out.later hb)
 replace HT:=hd (HT.out.later hb)
 replace HU:=hd (HU.out.later hb)
 replace H22:=hd (H22.out.later hb)
 replace HW:=hd (HW.out.trans (hb.mono HW.out.size))
 clear hb
 obtain ⟨lB3,cB3,fB3⟩:=B3.out
 obtain ⟨lB4,cB4,fB4⟩:=B4.out
 obtain ⟨lB8,cB8,fB8⟩:=B8.out
 obtain ⟨lB9,cB9,fB9⟩:=B9.out
 have HPE:=hd (ends_parts hm2 HP.out)
 go_wp2_with fail
 refine (refSameT HT.out HU.out).mono ?_
 rintro e w9 ⟨rfl,hb⟩
 rw [sameT_self]
 clear HT HU
 clear lB3 cB3 fB3 lB4 cB4 fB4 lB8 cB8 fB8 lB9 cB9 fB9
 replace B3:=hd (B3.out.later hb)
 replace B4:=hd (B4.out.later hb)
 replace B8:=hd (B8.out.later hb)
 replace B9:=hd (B9.out.later hb)
 replace H22:=hd (H22.out.later hb)
 replace HW:=hd (HW.out.trans (hb.mono HW.out.size))
 clear hb
 obtain ⟨lB3,cB3,fB3⟩:=B3.out
 obtain ⟨lB4,cB4,fB4⟩:=B4.out
 obtain ⟨lB8,cB8,fB8⟩:=B8.out
 obtain ⟨lB9,cB9,fB9⟩:=B9.out
 obtain ⟨hs0,hs1,hsum,hc0,hh1,hh6⟩ : 0 <= t.steps/\t.steps <= m/\(t.out.length:Int)+t.checks <= t.steps/\0 <= t.checks/\1 <= t.how/\t.how <= 6:=by
  rcases HPE.out with ⟨he, -⟩ | h
  ·rw [he];exact ⟨by decide,by show (0:Int) <= m;omega,by decide,by decide,by decide,by decide⟩
  ·have h1:=h.how;have h2:=h.steps;have h3:=h.sum
   exact ⟨h2.1,h2.2,h3.1,h3.2,by omega,by omega⟩
 have q1:decide ((m:Int) < t.steps)=false:=by simp;omega
 have hsm:IntKind.i64.wrap ((t.out.length:Int)+t.checks)=(t.out.length:Int)+t.checks:=by rw [i64_add (by unfold In64;omega)]
 have q2:decide (t.steps < (t.out.length:Int)+t.checks)=false:=by simp;omega
 have q3:decide (t.how < 1)=false:=by simp;omega
 have q4:decide (6 < t.how)=false:=by simp;omega
 clear hs0 hs1 hsum hc0 hh1 hh6
 go_upto_region 6 with (fail)
 clear q1 hsm q2 q3 q4
 by_cases h6:t.how=6
 ·have hq:(t.how == 6)=true:=by simpa using h6
  obtain ⟨he,hno⟩ : t=refusedT /\ ¬ (checkF f=0/\FaultR f 0 0):=HPE.out.resolve_right (fun h=>h.how.1 h6)
  have z1:(t.steps == 0)=true:=by rw [he];rfl
  have z2:((t.arrays.length:Int) == 0)=true:=by rw [he];rfl
  have z3:((t.visits.length:Int) == 0)=true:=by rw [he];rfl
  have HNO:=hd hno
  clear he hno h6
  go_wp2_with fail
  refine (refIs (HV.out.below HW.out)).mono ?_
  rintro e w10 ⟨k,rfl,hk,hb⟩
  cases k
  ·clear hk
   clear lB3 cB3 fB3 lB4 cB4 fB4 lB8 cB8 fB8 lB9 cB9 fB9
   replace B3:=hd (B3.out.later hb)
   replace B4:=hd (B4.out.later hb)
   replace B8:=hd (B8.out.later hb)
   replace B9:=hd (B9.out.later hb)
   replace H22:=hd (H22.out.later hb)
   replace HW:=hd (HW.out.trans (hb.mono HW.out.size))
   clear hb
   obtain ⟨lB3,cB3,fB3⟩:=B3.out
   obtain ⟨lB4,cB4,fB4⟩:=B4.out
   obtain ⟨lB8,cB8,fB8⟩:=B8.out
   obtain ⟨lB9,cB9,fB9⟩:=B9.out
   go_wp2
   go_ret
   exact ⟨rfl,HW.out⟩
  ·exact absurd (hk.1 rfl) HNO.out
 ·have hq:(t.how == 6)=false:=by simpa using h6
  have hep:EndsP f i m t:=HPE.out.resolve_left (fun h=>h6 (by rw [h.1];rfl))
  have HEP:=hd hep
  obtain ⟨ts,tb6,tc6,tbb,tbo,hte, -, -, -,hta,htx,hti⟩:=HAV.out.parts
  injection hte with e1' e2' e3'
  subst e1'
  subst e3'
  obtain ⟨us,ub6,uc6,ubb,ubo,hue, -, -, -,hua,hux,hui⟩:=HUB.out.parts
  injection hue with e4' e5' e6'
  subst e4'
  subst e6'
  obtain ⟨na,hna⟩ : ∃ na,na=t.arrays.length:=⟨_,rfl⟩
  obtain ⟨ni,hni⟩ : ∃ ni,ni=i.arrays.length:=⟨_,rfl⟩
  have hna8:na <= 8:=by rw [hna];exact hep.arrays.2
  rw [<-hna] at hta htx hti B8
  rw [<-hni] at hua hux hui B4
  have HNA:=hd hna
  have HNI:=hd hni
  have HTA:=hd hta
  have HTX:=hd htx
  have HTI:=hd hti
  have HUA:=hd hua
  have HUX:=hd hux
  have HUI:=hd hui
  clear hep hta htx hti hua hux hui hna hni h6 e2' e5'
  go_wp2_with fail
  clear lB3 cB3 fB3 lB4 cB4 fB4 lB8 cB8 fB8 lB9 cB9 fB9
  have HW9:=HW
  have B39:=B3
  have B49:=B4
  have B89:=B8
  have H229:=H22
  clear HW B3 B4 B8 B9 H22
  go_loopw [10] (fun iv wr => ∃ k:Nat,k <= na/\iv = .int .i64 k/\Below w9.heap.size w9 wr) (fun iv _=>na - (intOf iv).toNat)
  case atStart=>exact ⟨0,Nat.zero_le _,rfl,Below.refl _ _⟩
  case round =>
   obtain ⟨k,hk,rfl,hl⟩:=hrel
   have HL:=hd hl
   have HW:Hid (Below w.heap.size w wr):=hd (HW9.out.trans (hl.mono HW9.out.size))
   have B3:=hd (B39.out.later hl)
   have B4:=hd (B49.out.later hl)
   have B8:=hd (B89.out.later hl)
   have H22:Hid (Since w2 wr):=hd (H229.out.later hl)
   clear hl
   by_cases hlt:k < na
   ·obtain ⟨rfl,htl⟩:=HTA.out (by omega)
    have y1:=(H22.out.cell (p:=⟨tbb,tbo+k,none⟩) htl).trans (HTX.out k hlt)
    obtain ⟨ra,rc,hre⟩:=(HTI.out k hlt).form
    rw [hre] at y1
    obtain ⟨la,hla⟩ : ∃ la,la=(t.arrays.getD k []).length:=⟨_,rfl⟩
    rw [<-hla] at y1
    have heach:=HEP.out.each k (by rw [<-HNA.out];exact hlt)
    rw [<-hla] at heach
    obtain ⟨sz,hsz⟩ : ∃ sz,sz=(i.arrays.getD k []).length:=⟨_,rfl⟩
    rw [<-hsz] at heach
    have HGO:Hid (((la:Int) != (sz:Int))=false \/ (((la:Int) != (sz:Int))=true/\((la:Int) != 4096)=false)):=hd (by
     by_cases h9:sz <= 4096
     ·left;have:la=sz:=by omega
      simp [this]
     ·right;have:la=4096:=by omega
      exact ⟨by simp;omega,by simp [this]⟩)
    clear hre hla heach
    by_cases hkt:k < ni
    ·obtain ⟨rfl,hul⟩:=HUA.out (by omega)
     have z1:=(HW.out.cell (p:=⟨ubb,ubo+k,none⟩) hul).trans (HUX.out k hkt)
     obtain ⟨ia,ic,hie⟩:=(HUI.out k hkt).form
     rw [hie, <-hsz] at z1
     clear hie hsz
     obtain ⟨lB3,cB3,fB3⟩:=B3.out
     obtain ⟨lB4,cB4,fB4⟩:=B4.out
     obtain ⟨lB8,cB8,fB8⟩:=B8.out
     rcases HGO.out with g1 | ⟨g1,g2⟩
     ·go_wp2
      clear y1 z1
      clear lB3 cB3 fB3 lB4 cB4 fB4 lB8 cB8 fB8
      go_roundw
      case rel=>exact ⟨k+1,hlt,by go_num,HL.out⟩
      case measure=>simp [intOf];omega
     ·go_wp2
      clear y1 z1
      clear lB3 cB3 fB3 lB4 cB4 fB4 lB8 cB8 fB8
      go_roundw
      case rel=>exact ⟨k+1,hlt,by go_num,HL.out⟩
      case measure=>simp [intOf];omega
    ·obtain rfl:sz=0:=by
      rw [hsz,List.getD_eq_getElem?_getD,List.getElem?_eq_none (by rw [<-HNI.out];omega)];rfl
     clear hsz
     obtain ⟨lB3,cB3,fB3⟩:=B3.out
     obtain ⟨lB4,cB4,fB4⟩:=B4.out
     obtain ⟨lB8,cB8,fB8⟩:=B8.out
     rcases HGO.out with g1 | ⟨g1,g2⟩
     ·have g1' : ((la:Int) != 0)=false:=g1
      clear g1
      go_wp2
      clear y1
      clear lB3 cB3 fB3 lB4 cB4 fB4 lB8 cB8 fB8
      go_roundw
      case rel=>exact ⟨k+1,hlt,by go_num,HL.out⟩
      case measure=>simp [intOf];omega
     ·have g1' : ((la:Int) != 0)=true:=g1
      clear g1
      go_wp2
      clear y1
      clear lB3 cB3 fB3 lB4 cB4 fB4 lB8 cB8 fB8
      go_roundw
      case rel=>exact ⟨k+1,hlt,by go_num,HL.out⟩
      case measure=>simp [intOf];omega
   ·obtain rfl:na=k:=by omega
    have z1:((na:Int) == f.arrays)=true:=by have h9:=HEP.out.arrays.1;rw [<-HNA.out] at h9;simpa using h9
    have z2:(t.how == 2)=true \/ ((t.how == 2)=false/\(t.trap == 0)=true):=by
     rcases HEP.out.trap with h | h
     ·left;simpa using h
     ·by_cases h2:t.how=2
      ·left;simpa using h2
      ·right;exact ⟨by simpa using h2,by simpa using h⟩
    have z3:(t.how == 1)=true \/ ((t.how == 1)=false/\(t.value == 0)=true):=by
     rcases HEP.out.value with h | h
     ·left;simpa using h
     ·by_cases h2:t.how=1
      ·left;simpa using h2
      ·right;exact ⟨by simpa using h2,by simpa using h⟩
    have HZ2:=hd z2
    have HZ3:=hd z3
    clear z2 z3
    obtain ⟨lB3,cB3,fB3⟩:=B3.out
    obtain ⟨lB4,cB4,fB4⟩:=B4.out
    obtain ⟨lB8,cB8,fB8⟩:=B8.out
    rcases HZ2.out with g1 | ⟨g1,g2⟩
    ·rcases HZ3.out with g3 | ⟨g3,g4⟩
     ·go_wp2
      go_ret
      exact ⟨rfl,HW.out⟩
     ·go_wp2
      go_ret
      exact ⟨rfl,HW.out⟩
    ·rcases HZ3.out with g3 | ⟨g3,g4⟩
     ·go_wp2
      go_ret
      exact ⟨rfl,HW.out⟩
     ·go_wp2
      go_ret
      exact ⟨rfl,HW.out⟩
end Go.Proofs.YtgmhnepmkaonaaaGreat
