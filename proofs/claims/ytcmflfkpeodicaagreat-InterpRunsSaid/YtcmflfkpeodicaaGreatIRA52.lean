/- Part 52. -/
import Derived.Test.YtcmflfkpeodicaaGreatIRA44
import Derived.Test.YtcmflfkpeodicaaGreatIRA51
namespace Go.Proofs.YtcmflfkpeodicaaGreat
set_option linter.all false
open Go.RowKit
def lO (W:World) (v:Value) (t:TraceD):Prop := ∃ ov av vv,v = .agg #[.int .i64 t.how,.int .i64 t.value,.int .i64 t.trap,ov,av,.int .i64 t.steps,.int .i64 t.checks,vv]/\Ints W ov t.out/\kR W av t.arrays/\Ints W vv t.visits
theorem lO.below {W W' : World} {v:Value} {t:TraceD} (h:lO W v t) (hb:Below W.heap.size W W'):lO W' v t:=by
 obtain ⟨a,b,c,e,h1,h2,h3⟩:=h
 exact ⟨a,b,c,e,h1.below hb,h2.below hb,h3.below hb⟩
def RunP (f:FuncD) (i:InputD) (fuel:Int) (t:TraceD):Prop :=
 (t=rB /\ ¬ (eL f=0/\fM f 0 0/\0 <= fuel)) \/
 (eL f=0/\fM f 0 0/\0 <= fuel /\ ∃ o s,Runs f (min fuel 200000).toNat (-1) 0 (iI f i) o s/\t=qD o s)
def RunR (f:FuncD) (i:InputD) (fuel:Int) (w:World) (e:Ending) (w' : World):Prop := ∃ v t,e = .returned v/\RunP f i fuel t/\lO w' v t/\Below w.heap.size w w'
def lP (W:World) (S:Foot) (v:Value) (t:TraceD):Prop := ∃ ov av vv,v = .agg #[.int .i64 t.how,.int .i64 t.value,.int .i64 t.trap,ov,av,.int .i64 t.steps,.int .i64 t.checks,vv]/\eM W S ov t.out/\iG W S av t.arrays/\eM W S vv t.visits
theorem lP.val {W:World} {S:Foot} {v:Value} {t:TraceD} (h:lP W S v t):lO W v t:=by
 obtain ⟨a,b,c,e,h1,h2,h3⟩:=h
 exact ⟨a,b,c,e,h1.ints,h2.lists,h3.ints⟩
theorem lP.off {W W' : World} {S D:Foot} {v:Value} {t:TraceD} (h:lP W S v t) (ho:Off D W W') (hn:S.off D):lP W' S v t:=by
 obtain ⟨a,b,c,e,h1,h2,h3⟩:=h
 exact ⟨a,b,c,e,h1.off ho hn,h2.off OLis.nice ho hn,h3.off ho hn⟩
theorem lP.lt {W:World} {S:Foot} {v:Value} {t:TraceD} (h:lP W S v t):∀ k,S k -> k < W.heap.size:=by
 obtain ⟨a,b,c,e,h1,h2,h3⟩:=h
 exact h1.lt
def RunO (f:FuncD) (i:InputD) (fuel:Int) (w:World) (e:Ending) (w' : World):Prop := ∃ v t S,e = .returned v/\RunP f i fuel t/\lP w' S v t/\(∀ k,S k -> w.heap.size <= k)/\Below w.heap.size w w'
theorem pK (W:World):lP W Foot.none (.agg #[.int .i64 6,.int .i64 0,.int .i64 0,.slice none 0 0,.slice none 0 0,.int .i64 0,.int .i64 0,.slice none 0 0]) rB :=
 ⟨_,_,_,rfl,eM.nil _,OSl.nil _,eM.nil _⟩
theorem MachP.trace {base bs fuel:Nat} {W:World} {bm:Nat} {s:RunS} {o:OverD} {ov av vv cv:Value} {mv:Nat} {m:List (Int × Value)} {F:Nat -> Foot} (h:MachP base bs fuel W bm s o ov av vv cv mv m F) :
  lP W (fun k=>F 1 k \/ F 2 k \/ F 3 k) (.agg #[.int .i64 o.how,.int .i64 o.value,.int .i64 o.trap,ov,av,.int .i64 s.steps,.int .i64 s.checks,vv]) (qD o s):=by
 have hl:∀ k,(F 1 k \/ F 2 k \/ F 3 k) -> k < W.heap.size:=fun k hk=>by
  rcases hk with hk | hk | hk
  ·exact h.lt hk
  ·exact h.lt hk
  exact h.lt hk
 exact ⟨_,_,_,rfl,h.out.wide (fun k hk=>.inl hk) hl,h.arr.wide (fun k hk=>.inr (.inl hk)) hl,h.vis.wide (fun k hk=>.inr (.inr hk)) hl⟩
theorem tA (W:World):lO W (.agg #[.int .i64 6,.int .i64 0,.int .i64 0,.slice none 0 0,.slice none 0 0,.int .i64 0,.int .i64 0,.slice none 0 0]) rB :=
 ⟨_,_,_,rfl,Ints.nil,⟨[],rfl,Row.nil,fun j hj=>absurd hj (by show ¬ j < 0;omega)⟩,Ints.nil⟩
def eY (f:FuncD) (i:InputD) (k m:Nat):RunS :=
 { vals:=fun id=>if id < k then argI f i.args id else 0,cells:=List.replicate f.cells.toNat 0,arrays:=(List.range m).map fun k=>(i.arrays.getD k []).take 4096,out:=[],steps:=0,checks:=0,visits:=List.replicate f.blocks.length 0 }
theorem kW (f:FuncD) (i:InputD) (id:Int):(eY f i 0 0).vals id=0:=by
 show (if id < ((0:Nat):Int) then argI f i.args id else 0)=0
 split
 ·unfold argI;rw [if_neg (by omega)]
 rfl
theorem lZ {f:FuncD} {i:InputD} {k:Nat}:setV (eY f i k 0) k (argI f i.args k)=eY f i (k+1) 0:=by
 unfold setV eY
 congr 1
 funext id
 show (if id=(k:Int) then argI f i.args k else if id < (k:Int) then argI f i.args id else 0)=if id < ((k+1:Nat):Int) then argI f i.args id else 0
 by_cases e:id=(k:Int)
 ·rw [if_pos e,if_pos (by omega),e]
 rw [if_neg e]
 by_cases h:id < (k:Int)
 ·rw [if_pos h,if_pos (by omega)]
 rw [if_neg h,if_neg (by omega)]
theorem pL {f:FuncD} {i:InputD} {k:Nat} (h:i.args.length <= k):eY f i k 0=eY f i (k+1) 0:=by
 unfold eY
 congr 1
 funext id
 show (if id < (k:Int) then argI f i.args id else 0)=if id < ((k+1:Nat):Int) then argI f i.args id else 0
 by_cases e:id < (k:Int)
 ·rw [if_pos e,if_pos (by omega)]
 rw [if_neg e]
 split
 ·unfold argI;rw [if_neg (by omega)]
 rfl
theorem nP (f:FuncD) (i:InputD):eY f i f.params.length f.arrays.toNat=iI f i:=by
 unfold eY iI
 congr 1
 funext id
 show (if id < (f.params.length:Int) then argI f i.args id else 0)=argI f i.args id
 split
 ·rfl
 unfold argI;rw [if_neg (by omega)]
theorem nQ (f:FuncD) (i:InputD) (k m:Nat):(eY f i k m).arrays ++ [(i.arrays.getD m []).take 4096]=(eY f i k (m+1)).arrays:=by
 show ((List.range m).map fun k=>(i.arrays.getD k []).take 4096) ++ [(i.arrays.getD m []).take 4096]=(List.range (m+1)).map fun k=>(i.arrays.getD k []).take 4096
 rw [List.range_succ,bF];rfl
theorem qI (s:RunS) (k a b:Int):setV (setV s k a) k b=setV s k b:=by
 unfold setV
 congr 1
 funext id
 show (if id=k then b else if id=k then a else s.vals id)=if id=k then b else s.vals id
 split <;> rfl
theorem aBH {f:FuncD} {args:List Int} {k:Nat} (h1:k < f.params.length) (h2:k < args.length):argI f args k=if f.params.getD k 0=2 then iT (args.getD k 0 != 0) else args.getD k 0:=by
 unfold argI
 rw [if_pos ⟨by omega,by omega,by omega⟩,cU]
 split
 ·congr 1
  by_cases e:args.getD k 0=0
  ·rw [e];decide
  rw [decide_eq_true e,(bne_iff_ne ..).2 e]
 rfl
def aC1 (bm gv mv gc:Nat):Nat -> Foot
 | 0=>Foot.one bm
 | 3=>Foot.one gv
 | 4=>Foot.one mv
 | 5=>Foot.one gc
 | _=>Foot.none
theorem nF {bm gv mv gc i k:Nat} (h:aC1 bm gv mv gc i k):(i=0/\k=bm) \/ (i=3/\k=gv) \/ (i=4/\k=mv) \/ (i=5/\k=gc):=by
 rcases i with _ | _ | _ | _ | _ | _ | i
 ·exact .inl ⟨rfl,h⟩
 ·exact h.elim
 ·exact h.elim
 ·exact .inr (.inl ⟨rfl,h⟩)
 ·exact .inr (.inr (.inl ⟨rfl,h⟩))
 ·exact .inr (.inr (.inr ⟨rfl,h⟩))
 exact h.elim
theorem tB (n:Nat):natI (List.replicate n 0)=List.replicate n 0:=by unfold natI;rw [List.map_replicate];rfl
theorem MachP.made {base bs fuel:Nat} {W:World} {bm mv gv gc nb cn:Nat} {f:FuncD} {i:InputD} {vv cv:Value} (hn:nb=f.blocks.length) (hc:(cn:Int)=f.cells)
  (hb:Box W bm #[.int .i64 0,.int .i64 0,.int .i64 0,.slice none 0 0,.slice none 0 0,.int .i64 0,.int .i64 0,vv,.pointer (some ⟨bs,0,none⟩),.int .i64 fuel,.map (some mv),cv])
  (hv:eM W (Foot.one gv) vv (List.replicate nb 0)) (hcl:eM W (Foot.one gc) cv (List.replicate cn 0)) (hm:IMap W mv []) (hd:base <= mv/\mv < gc/\gc < bm/\bm < gv) :
  MachP base bs fuel W bm (eY f i 0 0) ⟨0,0,0⟩ (.slice none 0 0) (.slice none 0 0) vv cv mv [] (aC1 bm gv mv gc):=by
 have hcn:f.cells.toNat=cn:=by omega
 refine ⟨hb,fun k=>Iff.rfl,eM.nil none,OSl.nil none, ?_,hm,fun k=>Iff.rfl,fun id => ?_, ?_,fun id => ?_,fun i j hij k h1 h2 => ?_,fun i k h => ?_,fun i k h => ?_⟩
 ·show eM W (Foot.one gv) vv (natI (List.replicate f.blocks.length 0))
  rw [tB, <-hn];exact hv
 ·rw [kW];rfl
 ·show eM W (Foot.one gc) cv (List.replicate f.cells.toNat 0)
  rw [hcn];exact hcl
 ·rw [kW];exact ⟨by decide,by decide⟩
 ·have:=nF h1;have:=nF h2;omega
 ·have:=nF h;omega
 ·have:=nF h;omega
set_option maxHeartbeats 12800000 in
set_option maxRecDepth 100000 in
theorem runO {w:World} {v u:Value} {f:FuncD} {i:InputD} {fuel:Int} (hv:gG w v f) (hi:nA w u i) (hfu:In64 fuel):Calls Tryz.prog 13 #[v,u,.int .i64 fuel] w (RunO f i fuel w):=by
 have HV:=h! hv
 have HIN:=h! hi
 obtain ⟨ap,cp,ab,cb,rfl,hp,har,hce,hbl⟩:=hv.form
 obtain ⟨ua,ub,rfl,hua,hub⟩:=hi
 obtain ⟨aa,ca,rfl⟩:=hua.form
 have HFU:=h! hfu
 obtain ⟨np,hnp⟩ : ∃ np,np=f.params.length:=⟨_,rfl⟩
 obtain ⟨ar,harr⟩ : ∃ ar,ar=f.arrays:=⟨_,rfl⟩
 obtain ⟨ce,hcel⟩ : ∃ ce,ce=f.cells:=⟨_,rfl⟩
 obtain ⟨nb,hnb⟩ : ∃ nb,nb=f.blocks.length:=⟨_,rfl⟩
 obtain ⟨la,hla⟩ : ∃ la,la=i.args.length:=⟨_,rfl⟩
 have HDIM:=h! (show np=f.params.length/\ar=f.arrays/\ce=f.cells/\nb=f.blocks.length/\la=i.args.length from ⟨hnp,harr,hcel,hnb,hla⟩)
 rw [<-hnp, <-harr, <-hcel, <-hnb] at HV
 rw [<-hla] at HIN
 rw [<-hnp, <-harr, <-hcel, <-hnb, <-hla]
 have HP:Hid (Ints w (.slice ap np cp) f.params):=h! (by rw [hnp];exact hp)
 have HUA:Hid (Ints w (.slice aa la ca) i.args):=h! (by rw [hla];exact hua)
 clear hp har hce hbl hua hub hnp harr hcel hnb hla hfu
 go_enter Tryz.func13,Tryz.ntmps13
 go_upto_region 1 with (fail)
 have hA_:=(Below.refl w.heap.size w).alloc (aF _) (.cells #[.slice ap np cp,.int .i64 ar,.int .i64 ce,.slice ab nb cb] 25)
 have HW:=h! hA_
 clear hA_
 have B3:=h! (Box.new w #[.slice ap np cp,.int .i64 ar,.int .i64 ce,.slice ab nb cb] 25)
 have hz0_:(w.alloc (.cells #[.slice ap np cp,.int .i64 ar,.int .i64 ce,.slice ab nb cb] 25)).heap.size=w.heap.size+1:=World.size_alloc _ _
 generalize w.alloc (.cells #[.slice ap np cp,.int .i64 ar,.int .i64 ce,.slice ab nb cb] 25)=wv0 at *
 have hA_:=(Below.refl wv0.heap.size wv0).alloc (aF _) (.cells #[.slice aa la ca,ub] 28)
 replace B3:=h! (B3.out.later hA_)
 replace HW:=h! (HW.out.trans (hA_.mono HW.out.size))
 clear hA_
 have B4:=h! (Box.new wv0 #[.slice aa la ca,ub] 28)
 rw [hz0_] at B4
 have hz1_:(wv0.alloc (.cells #[.slice aa la ca,ub] 28)).heap.size=w.heap.size+1+1:=by rw [World.size_alloc,hz0_]
 clear hz0_
 generalize wv0.alloc (.cells #[.slice aa la ca,ub] 28)=wv1 at *
 have hA_:=(Below.refl wv1.heap.size wv1).alloc (aF _) (.cells #[.int .i64 0,.int .i64 0,.int .i64 0,.slice none 0 0,.slice none 0 0,.int .i64 0,.int .i64 0,.slice none 0 0] 34)
 replace B3:=h! (B3.out.later hA_)
 replace B4:=h! (B4.out.later hA_)
 replace HW:=h! (HW.out.trans (hA_.mono HW.out.size))
 clear hA_
 have B6:=h! (Box.new wv1 #[.int .i64 0,.int .i64 0,.int .i64 0,.slice none 0 0,.slice none 0 0,.int .i64 0,.int .i64 0,.slice none 0 0] 34)
 rw [hz1_] at B6
 clear hz1_
 generalize wv1.alloc (.cells #[.int .i64 0,.int .i64 0,.int .i64 0,.slice none 0 0,.slice none 0 0,.int .i64 0,.int .i64 0,.slice none 0 0] 34)=wv at *
 obtain ⟨lB3,cB3,fB3⟩:=B3.out
 obtain ⟨lB4,cB4,fB4⟩:=B4.out
 obtain ⟨lB6,cB6,fB6⟩:=B6.out
 go_wp2_with fail
 refine (aIK (HV.out.below HW.out)).mono ?_
 rintro e w2 ⟨hb,⟨hc0,rfl⟩ | ⟨hc0,b,k,hF,hk,rfl⟩ | ⟨hc0,hF,bs,bt,bg,lg,lcap,bm,tm,g,pv,ov,lv,O,I,rfl,hg,hO,hD,hS,hT⟩⟩
 ·have hq:(eL f != 0)=true:=by simpa using hc0
  have HNO:Hid (¬ (eL f=0/\fM f 0 0/\0 <= fuel)):=h! (fun h=>hc0 h.1)
  obtain ⟨c0,hc⟩ : ∃ c0,c0=eL f:=⟨_,rfl⟩
  rw [<-hc] at hq
  simp only [<-hc]
  clear hc0 hc
  clear lB3 cB3 fB3 lB4 cB4 fB4 lB6 cB6 fB6
  replace B3:=h! (B3.out.later hb)
  replace B4:=h! (B4.out.later hb)
  replace B6:=h! (B6.out.later hb)
  replace HW:=h! (HW.out.trans (hb.mono HW.out.size))
  clear hb
  obtain ⟨lB3,cB3,fB3⟩:=B3.out
  obtain ⟨lB4,cB4,fB4⟩:=B4.out
  obtain ⟨lB6,cB6,fB6⟩:=B6.out
  go_wp2_with fail
  clear lB3 cB3 fB3 lB4 cB4 fB4 lB6 cB6 fB6
  have hO_:=((((((((Only.set w2 (w.heap.size+1+1) 0 (.int .i64 6)).put 1 (.int .i64 0)).put 2 (.int .i64 0)).put 3 (.slice none 0 0)).put 4 (.slice none 0 0)).put 5 (.int .i64 0)).put 6 (.int .i64 0)).put 7 (.slice none 0 0))
  replace B3:=h! (B3.out.only hO_ (by first | assumption | (simp;done) | omega))
  replace B4:=h! (B4.out.only hO_ (by first | assumption | (simp;done) | omega))
  replace HW:=h! (hO_.2.2 HW.out (by first | assumption | omega | (have:=HW.out.size;omega) | (simp;done) | (simp;omega)))
  replace B6:=h! (Box.to (A':=#[(.int .i64 6),(.int .i64 0),(.int .i64 0),(.slice none 0 0),(.slice none 0 0),(.int .i64 0),(.int .i64 0),(.slice none 0 0)]) ((((((((B6.out.set 0 (.int .i64 6)).set 1 (.int .i64 0)).set 2 (.int .i64 0)).set 3 (.slice none 0 0)).set 4 (.slice none 0 0)).set 5 (.int .i64 0)).set 6 (.int .i64 0)).set 7 (.slice none 0 0)) (by first | rfl | simp))
  clear hO_
  generalize ((((((((w2.setCell ⟨w.heap.size+1+1,0,none⟩ (.int .i64 6)).setCell ⟨w.heap.size+1+1,1,none⟩ (.int .i64 0)).setCell ⟨w.heap.size+1+1,2,none⟩ (.int .i64 0)).setCell ⟨w.heap.size+1+1,3,none⟩ (.slice none 0 0)).setCell ⟨w.heap.size+1+1,4,none⟩ (.slice none 0 0)).setCell ⟨w.heap.size+1+1,5,none⟩ (.int .i64 0)).setCell ⟨w.heap.size+1+1,6,none⟩ (.int .i64 0)).setCell ⟨w.heap.size+1+1,7,none⟩ (.slice none 0 0))=wz at *
  obtain ⟨lB3,cB3,fB3⟩:=B3.out
  obtain ⟨lB4,cB4,fB4⟩:=B4.out
  obtain ⟨lB6,cB6,fB6⟩:=B6.out
  refine bodyPost_ret (v:=.agg #[.int .i64 6,.int .i64 0,.int .i64 0,.slice none 0 0,.slice none 0 0,.int .i64 0,.int .i64 0,.slice none 0 0]) (by simp [results,Tryz.results13,go_sem, *]) rfl ⟨_,_,Foot.none,rfl,.inl ⟨rfl,HNO.out⟩,pK _,fun _ h=>h.elim,HW.out⟩
 ·have hq:(k != 0)=true:=by simpa using hk
  have HNO:Hid (¬ (eL f=0/\fM f 0 0/\0 <= fuel)):=h! (fun h=>hk (sT hF h.2.1).2)
  clear hc0 hF hk
  clear lB3 cB3 fB3 lB4 cB4 fB4 lB6 cB6 fB6
  replace B3:=h! (B3.out.later hb)
  replace B4:=h! (B4.out.later hb)
  replace B6:=h! (B6.out.later hb)
  replace HW:=h! (HW.out.trans (hb.mono HW.out.size))
  clear hb
  obtain ⟨lB3,cB3,fB3⟩:=B3.out
  obtain ⟨lB4,cB4,fB4⟩:=B4.out
  obtain ⟨lB6,cB6,fB6⟩:=B6.out
  go_wp2_with fail
  clear lB3 cB3 fB3 lB4 cB4 fB4 lB6 cB6 fB6
  have hO_:=((((((((Only.set w2 (w.heap.size+1+1) 0 (.int .i64 6)).put 1 (.int .i64 0)).put 2 (.int .i64 0)).put 3 (.slice none 0 0)).put 4 (.slice none 0 0)).put 5 (.int .i64 0)).put 6 (.int .i64 0)).put 7 (.slice none 0 0))
  replace B3:=h! (B3.out.only hO_ (by first | assumption | (simp;done) | omega))
  replace B4:=h! (B4.out.only hO_ (by first | assumption | (simp;done) | omega))
  replace HW:=h! (hO_.2.2 HW.out (by first | assumption | omega | (have:=HW.out.size;omega) | (simp;done) | (simp;omega)))
  replace B6:=h! (Box.to (A':=#[(.int .i64 6),(.int .i64 0),(.int .i64 0),(.slice none 0 0),(.slice none 0 0),(.int .i64 0),(.int .i64 0),(.slice none 0 0)]) ((((((((B6.out.set 0 (.int .i64 6)).set 1 (.int .i64 0)).set 2 (.int .i64 0)).set 3 (.slice none 0 0)).set 4 (.slice none 0 0)).set 5 (.int .i64 0)).set 6 (.int .i64 0)).set 7 (.slice none 0 0)) (by first | rfl | simp))
  clear hO_
  generalize ((((((((w2.setCell ⟨w.heap.size+1+1,0,none⟩ (.int .i64 6)).setCell ⟨w.heap.size+1+1,1,none⟩ (.int .i64 0)).setCell ⟨w.heap.size+1+1,2,none⟩ (.int .i64 0)).setCell ⟨w.heap.size+1+1,3,none⟩ (.slice none 0 0)).setCell ⟨w.heap.size+1+1,4,none⟩ (.slice none 0 0)).setCell ⟨w.heap.size+1+1,5,none⟩ (.int .i64 0)).setCell ⟨w.heap.size+1+1,6,none⟩ (.int .i64 0)).setCell ⟨w.heap.size+1+1,7,none⟩ (.slice none 0 0))=wz at *
  obtain ⟨lB3,cB3,fB3⟩:=B3.out
  obtain ⟨lB4,cB4,fB4⟩:=B4.out
  obtain ⟨lB6,cB6,fB6⟩:=B6.out
  refine bodyPost_ret (v:=.agg #[.int .i64 6,.int .i64 0,.int .i64 0,.slice none 0 0,.slice none 0 0,.int .i64 0,.int .i64 0,.slice none 0 0]) (by simp [results,Tryz.results13,go_sem, *]) rfl ⟨_,_,Foot.none,rfl,.inl ⟨rfl,HNO.out⟩,pK _,fun _ h=>h.elim,HW.out⟩
 by_cases hneg:fuel < 0
 ·have ht:decide (fuel < 0)=true:=by simpa using hneg
  have HNO:Hid (¬ (eL f=0/\fM f 0 0/\0 <= fuel)):=h! (fun h=>by have:=h.2.2;omega)
  clear hc0 hF hg hO hD hS hT hneg
  clear lB3 cB3 fB3 lB4 cB4 fB4 lB6 cB6 fB6
  replace B3:=h! (B3.out.later hb)
  replace B4:=h! (B4.out.later hb)
  replace B6:=h! (B6.out.later hb)
  replace HW:=h! (HW.out.trans (hb.mono HW.out.size))
  clear hb
  obtain ⟨lB3,cB3,fB3⟩:=B3.out
  obtain ⟨lB4,cB4,fB4⟩:=B4.out
  obtain ⟨lB6,cB6,fB6⟩:=B6.out
  go_wp2_with fail
  clear lB3 cB3 fB3 lB4 cB4 fB4 lB6 cB6 fB6
  have hO_:=((((((((Only.set w2 (w.heap.size+1+1) 0 (.int .i64 6)).put 1 (.int .i64 0)).put 2 (.int .i64 0)).put 3 (.slice none 0 0)).put 4 (.slice none 0 0)).put 5 (.int .i64 0)).put 6 (.int .i64 0)).put 7 (.slice none 0 0))
  replace B3:=h! (B3.out.only hO_ (by first | assumption | (simp;done) | omega))
  replace B4:=h! (B4.out.only hO_ (by first | assumption | (simp;done) | omega))
  replace HW:=h! (hO_.2.2 HW.out (by first | assumption | omega | (have:=HW.out.size;omega) | (simp;done) | (simp;omega)))
  replace B6:=h! (Box.to (A':=#[(.int .i64 6),(.int .i64 0),(.int .i64 0),(.slice none 0 0),(.slice none 0 0),(.int .i64 0),(.int .i64 0),(.slice none 0 0)]) ((((((((B6.out.set 0 (.int .i64 6)).set 1 (.int .i64 0)).set 2 (.int .i64 0)).set 3 (.slice none 0 0)).set 4 (.slice none 0 0)).set 5 (.int .i64 0)).set 6 (.int .i64 0)).set 7 (.slice none 0 0)) (by first | rfl | simp))
  clear hO_
  generalize ((((((((w2.setCell ⟨w.heap.size+1+1,0,none⟩ (.int .i64 6)).setCell ⟨w.heap.size+1+1,1,none⟩ (.int .i64 0)).setCell ⟨w.heap.size+1+1,2,none⟩ (.int .i64 0)).setCell ⟨w.heap.size+1+1,3,none⟩ (.slice none 0 0)).setCell ⟨w.heap.size+1+1,4,none⟩ (.slice none 0 0)).setCell ⟨w.heap.size+1+1,5,none⟩ (.int .i64 0)).setCell ⟨w.heap.size+1+1,6,none⟩ (.int .i64 0)).setCell ⟨w.heap.size+1+1,7,none⟩ (.slice none 0 0))=wz at *
  obtain ⟨lB3,cB3,fB3⟩:=B3.out
  obtain ⟨lB4,cB4,fB4⟩:=B4.out
  obtain ⟨lB6,cB6,fB6⟩:=B6.out
  refine bodyPost_ret (v:=.agg #[.int .i64 6,.int .i64 0,.int .i64 0,.slice none 0 0,.slice none 0 0,.int .i64 0,.int .i64 0,.slice none 0 0]) (by simp [results,Tryz.results13,go_sem, *]) rfl ⟨_,_,Foot.none,rfl,.inl ⟨rfl,HNO.out⟩,pK _,fun _ h=>h.elim,HW.out⟩
 have ht:decide (fuel < 0)=false:=by simpa using hneg
 have HCH:=h! hc0
 have HFR:=h! hF
 have HE0:Hid (aGQ f w2 bs):=h! (by
  have hg3:g = #[.slice ap np cp,.int .i64 ar,.int .i64 ce,.slice ab nb cb]:=by injection hg with h;exact h.symm
  refine ⟨bt,bg,.slice ab nb cb,hS.s.at 0 rfl,hS.t.tree.at 0 rfl,hS.t.graph.at 3 (by rw [hg3];rfl), ?_⟩
  obtain ⟨q1,q2,hq, -, -, -,hq2⟩:=HV.out.below (HW.out.trans (hb.mono HW.out.size))
  simp at hq
  obtain ⟨-, -, -,rfl⟩:=hq
  exact hq2)
 have hh:=(gW.1 hc0).1
 unfold iH at hh
 simp only [aN,decide_eq_true_eq] at hh
 obtain ⟨⟨⟨⟨⟨⟨⟨hp16,ha0⟩,ha8⟩,hc1⟩,hc64⟩,hb1⟩,hb512⟩, -⟩:=hh
 rw [<-HDIM.out.2.1] at ha0 ha8
 rw [<-HDIM.out.2.2.1] at hc1 hc64
 rw [<-HDIM.out.1] at hp16
 rw [<-HDIM.out.2.2.2.1] at hb1 hb512
 obtain ⟨cn,rfl⟩ : ∃ cn:Nat,ce=cn:=⟨ce.toNat,by omega⟩
 obtain ⟨an,rfl⟩ : ∃ an:Nat,ar=an:=⟨ar.toNat,by omega⟩
 clear hc0 hF hg hO hD hS hT hneg
 clear lB3 cB3 fB3 lB4 cB4 fB4 lB6 cB6 fB6
 replace B3:=h! (B3.out.later hb)
 replace B4:=h! (B4.out.later hb)
 replace B6:=h! (B6.out.later hb)
 replace HW:=h! (HW.out.trans (hb.mono HW.out.size))
 clear hb
 obtain ⟨lB3,cB3,fB3⟩:=B3.out
 obtain ⟨lB4,cB4,fB4⟩:=B4.out
 obtain ⟨lB6,cB6,fB6⟩:=B6.out
 obtain ⟨fl,hfl⟩ : ∃ fl:Nat,min fuel 200000=(fl:Int):=⟨(min fuel 200000).toNat,by have:¬ fuel < 0:=(by simpa using ht);omega⟩
 have HFL:Hid ((min fuel 200000).toNat=fl/\fl <= 200000/\0 <= fuel):=h! (by have:¬ fuel < 0:=(by simpa using ht);omega)
 have hmm:=@run_makeMap Tryz.prog
 go_upto_region 4 with (fail)
 have HI:Hid (IMap (w2.alloc (.map #[] 0)) w2.heap.size []):=h! (IMap.new w2)
 go_upto_region 5 with (at_make;refine gE rfl _ _ 22 3 rfl mA cn rfl rfl rfl rfl (by omega) ?_;intro w5 hblk hgr)
 clear hmm ht hfl
 obtain ⟨mv,hmv⟩ : ∃ mv,mv=w2.heap.size:=⟨_,rfl⟩
 obtain ⟨gc,hgc⟩ : ∃ gc,gc=w2.heap.size+1:=⟨_,rfl⟩
 have hb5:Below w2.heap.size w2 w5:=((Below.refl _ _).alloc (aF _) _).trans (hgr.mono (by simp))
 have hgc5:gc < w5.heap.size:=by rw [hgc];have:=(Array.getElem?_eq_some_iff.1 hblk.out).1;simpa using this
 have HIM:Hid (IMap w5 mv []):=h! (by rw [hmv];exact HI.out.later hgr)
 have HCL:Hid (Holds [] mv w5 (Foot.one gc) (fun W=>eM W (Foot.one gc) (.slice (some ⟨gc,0,none⟩) cn cn) (List.replicate cn 0))):=h! ⟨by rw [hgc];exact lY (by simpa using hblk.out) (by omega),fun _ _ h hk=>h.keep hk,fun k hk=>by cases hk;exact hgc5,fun k hk=>by cases hk;omega,fun _ _ h=>by simp at h⟩
 have HEV:Hid (Env f mv w5 bs):=h! ⟨w2,hmv.symm,by rw [hmv];exact hb5,HE0.out⟩
 have hmg:mv < gc:=by omega
 have hm3:w.heap.size+1+1 < mv:=by omega
 rw [<-hgc, <-hmv]
 clear hblk hgr HI HE0 hgc hmv
 clear lB3 cB3 fB3 lB4 cB4 fB4 lB6 cB6 fB6
 replace B3:=h! (B3.out.later hb5)
 replace B4:=h! (B4.out.later hb5)
 replace B6:=h! (B6.out.later hb5)
 replace HW:=h! (HW.out.trans (hb5.mono HW.out.size))
 clear hb5
 obtain ⟨lB3,cB3,fB3⟩:=B3.out
 obtain ⟨lB4,cB4,fB4⟩:=B4.out
 obtain ⟨lB6,cB6,fB6⟩:=B6.out
 have hst6:=(Below.refl w5.heap.size w5).alloc (aF _) (.cells #[.int .i64 0,.int .i64 0,.int .i64 0,.slice none 0 0,.slice none 0 0,.int .i64 0,.int .i64 0,.slice none 0 0,.pointer (some ⟨bs,0,none⟩),.int .i64 fl,.map (some mv),.slice (some ⟨gc,0,none⟩) cn cn] 76)
 have nBMB3:w5.heap.size ≠ w.heap.size:=fun e=>by have:=lB3;omega
 have nB3BM:w.heap.size ≠ w5.heap.size:=fun e=>nBMB3 e.symm
 have nBMB4:w5.heap.size ≠ w.heap.size+1:=fun e=>by have:=lB4;omega
 have nB4BM:w.heap.size+1 ≠ w5.heap.size:=fun e=>nBMB4 e.symm
 have nBMB6:w5.heap.size ≠ w.heap.size+1+1:=fun e=>by have:=lB6;omega
 have nB6BM:w.heap.size+1+1 ≠ w5.heap.size:=fun e=>nBMB6 e.symm
 clear lB3 cB3 fB3 lB4 cB4 fB4 lB6 cB6 fB6
 have hA_:=(Below.refl w5.heap.size w5).alloc (aF _) (.cells #[.int .i64 0,.int .i64 0,.int .i64 0,.slice none 0 0,.slice none 0 0,.int .i64 0,.int .i64 0,.slice none 0 0,.pointer (some ⟨bs,0,none⟩),.int .i64 fl,.map (some mv),.slice (some ⟨gc,0,none⟩) cn cn] 76)
 replace B3:=h! (B3.out.later hA_)
 replace B4:=h! (B4.out.later hA_)
 replace B6:=h! (B6.out.later hA_)
 replace HIM:=h! (HIM.out.later hA_)
 replace HCL:=h! (HCL.out.later hA_)
 replace HW:=h! (HW.out.trans (hA_.mono HW.out.size))
 clear hA_
 have BM:=h! (Box.new w5 #[.int .i64 0,.int .i64 0,.int .i64 0,.slice none 0 0,.slice none 0 0,.int .i64 0,.int .i64 0,.slice none 0 0,.pointer (some ⟨bs,0,none⟩),.int .i64 fl,.map (some mv),.slice (some ⟨gc,0,none⟩) cn cn] 76)
 generalize w5.alloc (.cells #[.int .i64 0,.int .i64 0,.int .i64 0,.slice none 0 0,.slice none 0 0,.int .i64 0,.int .i64 0,.slice none 0 0,.pointer (some ⟨bs,0,none⟩),.int .i64 fl,.map (some mv),.slice (some ⟨gc,0,none⟩) cn cn] 76)=w6 at *
 obtain ⟨lB3,cB3,fB3⟩:=B3.out
 obtain ⟨lB4,cB4,fB4⟩:=B4.out
 obtain ⟨lB6,cB6,fB6⟩:=B6.out
 obtain ⟨lBM,cBM,fBM⟩:=BM.out
 have hm5:mv <= w5.heap.size:=by omega
 replace HEV:=h! (HEV.out.later (show Below mv w5 w6 from by have h9:Below w5.heap.size w5 w6:=hst6;exact h9.mono hm5))
 clear hst6
 obtain ⟨bq,hbq⟩ : ∃ bq,bq=w5.heap.size:=⟨_,rfl⟩
 have hbq6:bq < w6.heap.size:=by rw [hbq];exact lBM
 rw [<-hbq] at BM lBM cBM fBM hgc5
 simp only [<-hbq]
 clear hbq hm5
 go_upto_region 6 with (at_make;refine gE rfl _ _ 22 3 rfl mA nb rfl rfl rfl rfl (by omega) ?_;intro w7 hblk hgr;have hBM:=BM.out.later hgr;obtain ⟨lx,cx,fx⟩:=hBM)
 clear lx cx fx
 obtain ⟨gv,hgv⟩ : ∃ gv,gv=w6.heap.size:=⟨_,rfl⟩
 rw [<-hgv] at hblk hbq6 ⊢
 have hgv7:gv < w7.heap.size:=(aS.1 hblk.out).1
 replace HEV:=h! (HEV.out.later (hgr.mono (by omega)))
 clear hgv
 clear lB3 cB3 fB3 lB4 cB4 fB4 lB6 cB6 fB6 lBM cBM fBM
 replace B3:=h! (B3.out.later hgr)
 replace B4:=h! (B4.out.later hgr)
 replace B6:=h! (B6.out.later hgr)
 replace BM:=h! (BM.out.later hgr)
 replace HIM:=h! (HIM.out.later hgr)
 replace HCL:=h! (HCL.out.later hgr)
 replace HW:=h! (HW.out.trans (hgr.mono HW.out.size))
 clear hgr
 obtain ⟨lB3,cB3,fB3⟩:=B3.out
 obtain ⟨lB4,cB4,fB4⟩:=B4.out
 obtain ⟨lB6,cB6,fB6⟩:=B6.out
 obtain ⟨lBM,cBM,fBM⟩:=BM.out
 have HMC:Hid (MachP mv bs fl (w7.setCell ⟨bq,7,none⟩ (.slice (some ⟨gv,0,none⟩) nb nb)) bq (eY f i 0 0) ⟨0,0,0⟩ (.slice none 0 0) (.slice none 0 0) (.slice (some ⟨gv,0,none⟩) nb nb) (.slice (some ⟨gc,0,none⟩) cn cn) mv [] (aC1 bq gv mv gc)):=h! (MachP.made HDIM.out.2.2.2.1 HDIM.out.2.2.1 (BM.out.set 7 _) ((lY hblk.out (by omega)).off (Off.set w7 ⟨bq,7,none⟩ _) (fun k h e=>absurd ((show k=gv from h).symm.trans (show k=bq from e)) (by omega))) (HCL.out.now.off (Off.set w7 ⟨bq,7,none⟩ _) (fun k h e=>absurd ((show k=gc from h).symm.trans (show k=bq from e)) (by omega))) (HIM.out.keep ((Off.set w7 ⟨bq,7,none⟩ _).block mv (by omega) (fun e=>absurd (show mv=bq from e) (by omega)))) ⟨aF _,hmg,hgc5,hbq6⟩)
 replace HEV:=h! (HEV.out.later ((Below.refl _ _).setCell (p:=⟨bq,7,none⟩) (by show mv <= bq;omega) (.slice (some ⟨gv,0,none⟩) nb nb)))
 clear hblk HIM HCL
 clear lB3 cB3 fB3 lB4 cB4 fB4 lB6 cB6 fB6 lBM cBM fBM
 have hO_:=(Only.set w7 (bq) 7 (.slice (some ⟨gv,0,none⟩) nb nb))
 replace B3:=h! (B3.out.only hO_ (by first | assumption | (simp;done) | omega))
 replace B4:=h! (B4.out.only hO_ (by first | assumption | (simp;done) | omega))
 replace B6:=h! (B6.out.only hO_ (by first | assumption | (simp;done) | omega))
 replace HW:=h! (hO_.2.2 HW.out (by first | assumption | omega | (have:=HW.out.size;omega) | (simp;done) | (simp;omega)))
 replace BM:=h! (Box.to (A':=#[.int .i64 0,.int .i64 0,.int .i64 0,.slice none 0 0,.slice none 0 0,.int .i64 0,.int .i64 0,(.slice (some ⟨gv,0,none⟩) nb nb),.pointer (some ⟨bs,0,none⟩),.int .i64 fl,.map (some mv),.slice (some ⟨gc,0,none⟩) cn cn]) (BM.out.set 7 (.slice (some ⟨gv,0,none⟩) nb nb)) (by first | rfl | simp))
 clear hO_
 generalize (w7.setCell ⟨bq,7,none⟩ (.slice (some ⟨gv,0,none⟩) nb nb))=w8 at *
 obtain ⟨lB3,cB3,fB3⟩:=B3.out
 obtain ⟨lB4,cB4,fB4⟩:=B4.out
 obtain ⟨lB6,cB6,fB6⟩:=B6.out
 obtain ⟨lBM,cBM,fBM⟩:=BM.out
 clear hgv7 nBMB3 nB3BM nBMB4 nB4BM nBMB6 nB6BM
 go_wp2_with fail
 clear lBM cBM fBM BM
 have HM8:Hid (mv <= w8.heap.size):=h! (bG HMC.out.mp.lt)
 have HW8:=HW
 have B38:=B3
 have B48:=B4
 have B68:=B6
 go_loopw [47] (fun iv wr => ∃ (k:Nat) (mk:List (Int × Value)),k <= np/\iv = .int .i64 k/\MachP mv bs fl wr bq (eY f i k 0) ⟨0,0,0⟩ (.slice none 0 0) (.slice none 0 0) (.slice (some ⟨gv,0,none⟩) nb nb) (.slice (some ⟨gc,0,none⟩) cn cn) mv mk (aC1 bq gv mv gc)/\Off (Foot.one mv) w8 wr) (fun iv _=>np - (intOf iv).toNat)
 case atStart=>exact ⟨0,[],aP _,rfl,HMC.out,Off.refl _ _⟩
 obtain ⟨k,mk,hk,rfl,hmp,hof⟩:=hrel
 clear HW B3 B4 B6 HMC
 have HPK:=h! hmp
 have HOF:Hid (OffF (Foot.one mv) w8 wr):=h! hof
 have HW:Hid (Below w.heap.size w wr):=h! (HW8.out.trans (hof.below HW8.out.size (fun k _ h=>by have h9:k=mv:=h;omega)))
 have B3:=h! (B38.out.off hof (fun e=>absurd (show w.heap.size=mv from e) (by omega)))
 have B4:=h! (B48.out.off hof (fun e=>absurd (show w.heap.size+1=mv from e) (by omega)))
 have B6:=h! (B68.out.off hof (fun e=>absurd (show w.heap.size+1+1=mv from e) (by omega)))
 clear hmp hof
 obtain ⟨lB3,cB3,fB3⟩:=B3.out
 obtain ⟨lB4,cB4,fB4⟩:=B4.out
 obtain ⟨lB6,cB6,fB6⟩:=B6.out
 by_cases hlt:k < np
 ·obtain ⟨pb,po,pc,hpe,hpbl,hpx⟩:=fK HP.out (by have:=HDIM.out.1;omega)
  rw [<-HDIM.out.1] at hpe hpx
  injection hpe with e1 e2 e3
  subst e1
  subst e3
  obtain ⟨ty,hty⟩ : ∃ ty,ty=f.params.getD k 0:=⟨_,rfl⟩
  have hpc:=(HW.out.cell (p:=⟨pb,po+k,none⟩) hpbl).trans (hpx k hlt)
  rw [<-hty] at hpc
  clear e2 hpx
  by_cases hka:k < la
  ·obtain ⟨b5,o5,c5,he5,hb5,hx5⟩:=fK HUA.out (by have:=HDIM.out.2.2.2.2;omega)
   rw [<-HDIM.out.2.2.2.2] at he5 hx5
   injection he5 with e1 e2 e3
   subst e1
   subst e3
   obtain ⟨z,hz⟩ : ∃ z,z=i.args.getD k 0:=⟨_,rfl⟩
   have hz5:=(HW.out.cell (p:=⟨b5,o5+k,none⟩) hb5).trans (hx5 k hka)
   rw [<-hz] at hz5
   have HX5:Hid (w.cell? ⟨b5,o5+k,none⟩=some (.int .i64 z)):=h! (by rw [hz];exact hx5 k hka)
   have HZ64:Hid (In64 z):=h! (by rw [hz];exact HUA.out.getD k)
   have HARG:Hid (argI f i.args k=if ty=2 then iT (z != 0) else z):=h! (by rw [aBH (by have:=HDIM.out.1;omega) (by have:=HDIM.out.2.2.2.2;omega),hty,hz])
   have hb5r:b5 < wr.heap.size:=aL hb5 HW.out.size
   clear e2 hx5 hz hty
   go_upto_region 10 with (fail)
   clear hpc
   refine wp_region_grow 10 (fun _=>.plain) (by kernel_rfl) (by kernel_rfl) ?_ (fun ν => ?_)
   ·exact fun _=>trivial
   simp only [aK,aR,aM,aT]
   iterate 10 (refine Grow.val (v := ?_) rfl rfl (fun wg hbg hdg => ?_) ?_;rotate_left;(focus ((obtain ⟨lg0,cg0,fg0⟩:=B3.out.later hbg);(obtain ⟨lg1,cg1,fg1⟩:=B4.out.later hbg);(obtain ⟨lg2,cg2,fg2⟩:=B6.out.later hbg);(obtain ⟨xl1,xc1,xf1⟩:=(HPK.out.later hbg).box;have hzg:=(hbg.cell (p:=⟨b5,o5+k,none⟩) hb5r).trans hz5);clear hbg hdg;first | (go_simp;done) | (go_simp;with_reducible rfl)));simp only [Act.put,aA,aC,aD])
   intro wg hb hf hap
   clear hap
   clear lB3 cB3 fB3 lB4 cB4 fB4 lB6 cB6 fB6
   replace B3:=h! (B3.out.later hb)
   replace B4:=h! (B4.out.later hb)
   replace B6:=h! (B6.out.later hb)
   replace HPK:=h! (HPK.out.later hb)
   replace HOF:=h! (HOF.out.later hb)
   replace HW:=h! (HW.out.trans (hb.mono HW.out.size))
   clear hb
   obtain ⟨lB3,cB3,fB3⟩:=B3.out
   obtain ⟨lB4,cB4,fB4⟩:=B4.out
   obtain ⟨lB6,cB6,fB6⟩:=B6.out
   clear hf hz5 hb5r
   have HBS:Hid (mv <= wg.heap.size):=h! (bG HPK.out.mp.lt)
   clear lB3 cB3 fB3 lB4 cB4 fB4 lB6 cB6 fB6
   by_cases hty2:ty=2
   ·have hq:(ty == 2)=true:=by simpa using hty2
    go_upto_region 12 with (at_mapUpdate;refine fC (q:=.i64) (b:=mv) (mm:=mk) (y:=(k:Int)) rfl _ _ _ _ (.inl rfl) Tryz.underlying74 Tryz.underlying3 rfl HPK.out.mp rfl ?_;intro w9 hm2 hz2 ht2;have HP9:=h! hm2;have HT9:=h! ht2;clear hm2 hz2 ht2)
    have HOT:=h! (oE HPK.out HT9.out)
    have HPN:=h! (HPK.out.put_val HOT.out HBS.out HZ64.out HP9.out)
    have HW9:Hid (Below w.heap.size w w9):=h! (HW.out.trans (HOT.out.below HW.out.size (fun k _ h=>by have h9:k=mv:=h;omega)))
    have B39:=h! (B3.out.off HOT.out (fun e=>absurd (show w.heap.size=mv from e) (by omega)))
    have B49:=h! (B4.out.off HOT.out (fun e=>absurd (show w.heap.size+1=mv from e) (by omega)))
    have B69:=h! (B6.out.off HOT.out (fun e=>absurd (show w.heap.size+1+1=mv from e) (by omega)))
    have HOF9:Hid (OffF (Foot.one mv) w8 w9):=h! (Off.trans HOF.out HOT.out)
    clear HW B3 B4 B6 HOT HP9 HT9 HPK HOF HBS
    have HW:=HW9
    have B3:=B39
    have B4:=B49
    have B6:=B69
    clear HW9 B39 B49 B69
    have hz5:=(HW.out.cell (p:=⟨b5,o5+k,none⟩) hb5).trans HX5.out
    have hb5r:b5 < w9.heap.size:=aL hb5 HW.out.size
    obtain ⟨lB3,cB3,fB3⟩:=B3.out
    obtain ⟨lB4,cB4,fB4⟩:=B4.out
    obtain ⟨lB6,cB6,fB6⟩:=B6.out
    refine wp_region_grow 12 (fun kz=>match kz with | 11=>.const (.int .i64 (iT (z != 0))) | _=>.plain) (by kernel_rfl) (by kernel_rfl) ?_ (fun ν => ?_)
    ·(intro k;(try dsimp only);split <;> first | exact True.intro | (intro u w1 w2 hu hb;exact hu.below hb))
    simp only [aK,aR,aM,aT]
    iterate 11 (refine Grow.val (v := ?_) rfl rfl (fun wg hbg hdg => ?_) ?_;rotate_left;(focus ((obtain ⟨lg0,cg0,fg0⟩:=B3.out.later hbg);(obtain ⟨lg1,cg1,fg1⟩:=B4.out.later hbg);(obtain ⟨lg2,cg2,fg2⟩:=B6.out.later hbg);(obtain ⟨xl1,xc1,xf1⟩:=(HPN.out.later hbg).box;have hzg:=(hbg.cell (p:=⟨b5,o5+k,none⟩) hb5r).trans hz5);clear hbg hdg;first | (go_simp;done) | (go_simp;with_reducible rfl)));simp only [Act.put,aA,aC,aD])
    refine Grow.call (f := ?_) (args := ?_) rfl (fun wg => ?_) (fun wg hbg hdg => ?_) ?_
    rotate_left 2
    focus (first | (go_simp;done) | (go_simp;refine And.intro ?_ ?_ <;> with_reducible rfl) | (go_simp;with_reducible rfl))
    focus exact Calls.mono (zI (z != 0)) (fun e w2 ⟨he,hb2⟩=>⟨_,he,rfl,hb2⟩)
    simp only [Act.put,Known.val,aA,aC,aD]
    intro wg hb hf hap
    clear hap
    clear lB3 cB3 fB3 lB4 cB4 fB4 lB6 cB6 fB6
    replace B3:=h! (B3.out.later hb)
    replace B4:=h! (B4.out.later hb)
    replace B6:=h! (B6.out.later hb)
    replace HPN:=h! (HPN.out.later hb)
    replace HOF9:=h! (HOF9.out.later hb)
    replace HW:=h! (HW.out.trans (hb.mono HW.out.size))
    clear hb
    obtain ⟨lB3,cB3,fB3⟩:=B3.out
    obtain ⟨lB4,cB4,fB4⟩:=B4.out
    obtain ⟨lB6,cB6,fB6⟩:=B6.out
    clear hf hz5 hb5r
    clear lB3 cB3 fB3 lB4 cB4 fB4 lB6 cB6 fB6
    go_wp2_with (at_mapUpdate;refine fC (q:=.i64) (b:=mv) (mm:=mput mk k (.int .i64 z)) (y:=(k:Int)) rfl _ _ _ _ (.inl rfl) Tryz.underlying74 Tryz.underlying3 rfl HPN.out.mp rfl ?_;intro w10 hm2 hz2 ht2;have HP9:=h! hm2;have HT9:=h! ht2;clear hm2 hz2 ht2)
    have HOT:=h! (oE HPN.out HT9.out)
    have HPM:=h! (HPN.out.put_val HOT.out (bG HPN.out.mp.lt) (nI _) HP9.out)
    go_roundw
    case rel=>exact ⟨k+1,_,hlt,by go_num,by rw [<-lZ,HARG.out,if_pos hty2, <-qI _ _ z];exact HPM.out,Off.trans HOF9.out HOT.out⟩
    simp [intOf];omega
   have hq:(ty == 2)=false:=by simpa using hty2
   go_wp2_with (at_mapUpdate;refine fC (q:=.i64) (b:=mv) (mm:=mk) (y:=(k:Int)) rfl _ _ _ _ (.inl rfl) Tryz.underlying74 Tryz.underlying3 rfl HPK.out.mp rfl ?_;intro w9 hm2 hz2 ht2;have HP9:=h! hm2;have HT9:=h! ht2;clear hm2 hz2 ht2)
   have HOT:=h! (oE HPK.out HT9.out)
   have HPN:=h! (HPK.out.put_val HOT.out HBS.out HZ64.out HP9.out)
   go_roundw
   case rel=>exact ⟨k+1,_,hlt,by go_num,by rw [<-lZ,HARG.out,if_neg hty2];exact HPN.out,Off.trans HOF.out HOT.out⟩
   simp [intOf];omega
  have HSK:=h! (pL (f:=f) (i:=i) (k:=k) (by have:=HDIM.out.2.2.2.2;omega))
  clear hty
  go_wp2
  go_roundw
  case rel=>exact ⟨k+1,mk,hlt,by go_num,by rw [<-HSK.out];exact HPK.out,HOF.out⟩
  simp [intOf];omega
 obtain rfl:np=k:=by omega
 obtain ⟨W1,rfl⟩ : ∃ W1,W1=wr:=⟨_,rfl⟩
 obtain ⟨D1,hD1,hM1⟩ : ∃ D1,(∀ k,D1 k -> mv <= k)/\Mach mv bs fl W1 bq D1 (eY f i np 0):=⟨_,(HPK.out.mach).base,HPK.out.mach⟩
 have HD1:=h! hD1
 have HM1:=h! hM1
 replace HEV:=h! (HEV.out.later (Off.below HOF.out HM8.out (fun k _ h=>by have h9:k=mv:=h;omega)))
 have HM1S:Hid (mv <= W1.heap.size):=h! (bG HPK.out.mp.lt)
 have HW1:=HW
 have B31:=B3
 have B41:=B4
 have B61:=B6
 clear hD1 hM1 HPK HOF B38 B48 B68 HW8 hlt hk
 go_wp2_with fail
 clear lB3 cB3 fB3 lB4 cB4 fB4 lB6 cB6 fB6
 go_loopw [84] (fun iv wr => ∃ (m:Nat),m <= an/\iv = .int .i64 m/\MOk mv bs fl W1 bq D1 (eY f i np m) wr) (fun iv _=>an - (intOf iv).toNat)
 case atStart=>exact ⟨0,aP _,rfl,MOk.same HM1.out (Below.refl _ _)⟩
 obtain ⟨m,hm,rfl,D2,hm2,ho2,hd2⟩:=hrel
 clear HW B3 B4 B6
 have HW:Hid (Below w.heap.size w wr):=h! (HW1.out.trans (ho2.below HW1.out.size (fun k _ h=>by have:=HD1.out k h;omega)))
 have B3:=h! (B31.out.off ho2 (fun e=>by have:=HD1.out _ e;omega))
 have B4:=h! (B41.out.off ho2 (fun e=>by have:=HD1.out _ e;omega))
 have B6:=h! (B61.out.off ho2 (fun e=>by have:=HD1.out _ e;omega))
 have HEW:Hid (Env f mv wr bs):=h! (HEV.out.later (ho2.below HM1S.out (fun k _ h=>HD1.out k h)))
 have HO2:=h! ho2
 have HDD2:=h! hd2
 clear ho2 hd2
 by_cases hlt:m < an
 ·obtain ⟨ov,av,vv,cv,mvv,mm,F,hP,hD⟩:=hm2
  have HPR:=h! hP
  have HDF:=h! hD
  have HBASE:Hid (mv <= wr.heap.size):=h! (bG (Nat.lt_of_le_of_lt (HPR.out.base 4 _ ((HPR.out.m4 _).2 rfl)) HPR.out.mp.lt))
  obtain ⟨x,hx⟩ : ∃ x,x=(i.arrays.getD m []).take 4096:=⟨_,rfl⟩
  have HX:=h! hx
  obtain ⟨arrs,har⟩ : ∃ arrs,arrs=(eY f i np m).arrays:=⟨_,rfl⟩
  have HAL:Hid (arrs.length=m):=h! (by rw [har];show ((List.range m).map _).length=m;rw [bD,List.length_range])
  have HNXT:Hid ({ eY f i np m with arrays:=arrs ++ [x] } = eY f i np (m+1)):=h! (by rw [har,hx,nQ];rfl)
  have HAR:Hid (Holds [] mv wr (F 2) (fun W=>iG W (F 2) av arrs)):=h! (by rw [har];exact rD OLis.nice hP.arr (fun k hk=>hP.base 2 k hk))
  have NBM:Hid (¬ F 2 bq):=h! (fun h=>HPR.out.apart 0 2 (by omega) _ ((HPR.out.b0 _).2 rfl) h)
  have HFB:Hid (∀ k,F 2 k -> mv <= k):=h! (fun k hk=>HPR.out.base 2 k hk)
  have HFL2:Hid (∀ k,F 2 k -> k < wr.heap.size):=h! (fun k hk=>HPR.out.lt hk)
  clear hP hD hx har
  obtain ⟨XF,hX1,hX2⟩ : ∃ XF:Nat -> Foot,(∀ q k,q ≠ 10 -> ¬ XF q k) /\ ∀ k,XF 10 k ↔ F 2 k:=⟨fun q=>if q=10 then F 2 else Foot.none,fun q k hq h=>by simp only [if_neg hq] at h;exact h.elim,fun k=>by simp⟩
  have HX1:=h! hX1
  have HX2:=h! hX2
  have HXA:Hid (∀ k,Four.All XF k -> F 2 k):=h! (fun k ⟨q,hq⟩=>by
   by_cases e:q=10
   ·subst e;exact (hX2 k).1 hq
   exact absurd hq (hX1 q k e))
  clear hX1 hX2
  have xW:∀ q k,XF q k -> k < wr.heap.size:=fun q k h=>HFL2.out k (HXA.out k ⟨q,h⟩)
  have xI:∀ w w' : World,True -> Below w.heap.size w w' -> True:=fun _ _ _ _=>trivial
  have xI0:True:=trivial
  have xB4:¬ Four.All XF (w.heap.size+1):=fun h=>by have:=HFB.out _ (HXA.out _ h);omega
  have xBASE:∀ k,k < wr.heap.size -> Four.All XF k -> w.heap.size <= k:=fun k _ h=>by have:=HFB.out k (HXA.out k h);omega
  go_upto_region 17 with (fail)
  obtain ⟨lB4,cB4,fB4⟩:=B4.out
  refine Four.wp_region_grow (XF:=XF) (I:=(fun _=>True)) 11 (fun ν kz=>match kz with | 8=>.holds (fun u w' => ∃ S,Holds [] wr.heap.size w' S (fun W=>eM W S u x)) | 9=>.holds (fun u w' => ∃ (B:Nat) (a8:Option Addr) (c8:Nat) (S:Foot),u = .slice (some ⟨B,0,none⟩) 1 1/\wr.heap.size <= B/\Box w' B #[.slice a8 x.length c8]/\Holds [] wr.heap.size w' S (fun W=>eM W S (.slice a8 x.length c8) x)) | 10=>.holds (fun u w' => ∃ S,Holds [] mv w' S (fun W=>iG W S u (arrs ++ [x]))/\(∀ k,S k -> F 2 k \/ wr.heap.size <= k) /\ ∃ g cap,u = .slice (some ⟨g,0,none⟩) (m+1) cap) | _=>.plain) (by kernel_rfl) (by kernel_rfl) ?_ ?_ xW xI xI0 ?_ (fun ν => ?_)
  ·(intro ν k;(try dsimp only);split <;> first | exact True.intro | (intro u w1 w2 hu hb;first | (obtain ⟨S,h1⟩:=hu;exact ⟨S,h1.off hb (fun k g1 ⟨q,_,g2⟩=>by have:=xW q k g2;have:=h1.base k g1;omega)⟩) | (obtain ⟨B,a8,c8,S,h0,h1,h2,h3⟩:=hu;exact ⟨B,a8,c8,S,h0,h1,h2.off hb (fun ⟨q,_,g2⟩=>by have:=xW q _ g2;omega),h3.off hb (fun k g1 ⟨q,_,g2⟩=>by have:=xW q k g2;have:=h3.base k g1;omega)⟩) | (obtain ⟨S,h1,h2,h3⟩:=hu;exact ⟨S,h1.off hb (fun k _ ⟨q,g1,g2⟩=>HX1.out q k g1 g2),h2,h3⟩)))
  ·(intro ν ν' k h;first | rfl | ((try dsimp only);split <;> first | rfl))
  ·(intro ν j B mk A h;(try dsimp only at h);split at h <;> first | (cases h;exact Nat.le_refl _) | cases h)
  simp only [aK,aR,aM,aT]
  iterate 8 (refine Four.Grow.val (v := ?_) rfl rfl (fun wg hbg hdg => ?_) ?_;rotate_left;(focus ((obtain ⟨lg0,cg0,fg0⟩:=B4.out.off hbg.off xB4);(have hof:Off (F 2) wr wg:=hbg.off.mono (fun k _ hk=>HXA.out k hk);obtain ⟨xl1,xc1,xf1⟩:=HPR.out.box.off hof NBM.out);clear hbg hdg;first | (go_simp;done) | (go_simp;with_reducible rfl)));simp only [Act.put,aA,aC,aD])
  refine Four.Grow.call (f := ?_) (args := ?_) rfl (fun wg => ?_) (fun wg hbg hdg => ?_) ?_
  rotate_left 2
  focus (first | (go_simp;done) | (go_simp;refine And.intro ?_ ?_ <;> with_reducible rfl) | (go_simp;with_reducible rfl))
  focus (exact (aIJ (HIN.out.below (HW.out.trans (hbg.off.below HW.out.size xBASE)))).mono (fun e w2 ⟨u,S,he,hI,hF,hw⟩=>⟨u,he,⟨S,(jF (by rw [HX.out];exact hI) hF).from hbg.1.size⟩,hw⟩))
  simp only [Act.put,Known.val,aA,aC,aD]
  refine Four.Grow.gives rfl (fun wg hbg hdg => ?_) ?_
  focus ((have h8:∃ S,Holds [] wr.heap.size wg S (fun W=>eM W S (ν 8) x):=hdg 8 (by kernel_rfl));(obtain ⟨S,k8⟩:=h8);(obtain ⟨a8,c8,e8⟩:=k8.now.ints.form);(have hsz:=hbg.1.size);clear hdg;rw [e8] at k8;simp only [e8];refine ⟨.slice (some ⟨wg.heap.size,0,none⟩) 1 1,wg.alloc (.cells #[.slice a8 x.length c8] 22), ?_,⟨wg.heap.size,a8,c8,S,rfl,hsz,Box.new _ _ _,k8.alloc _⟩,Four.Step.of (fun _ _ _ _=>trivial) ((Below.refl _ _).alloc (aF _) _)⟩;clear hbg k8;(first | (go_simp;done) | (go_simp;with_reducible rfl)))
  simp only [Act.put,Known.val,aA,aC,aD]
  refine Four.Grow.gives rfl (fun wg hbg hdg => ?_) ?_
  focus ((have h9:∃ (B:Nat) (a8:Option Addr) (c8:Nat) (S:Foot), ν 9 = .slice (some ⟨B,0,none⟩) 1 1/\wr.heap.size <= B/\Box wg B #[.slice a8 x.length c8]/\Holds [] wr.heap.size wg S (fun W=>eM W S (.slice a8 x.length c8) x):=hdg 9 (by kernel_rfl));(obtain ⟨B,a8,c8,S,e9,hB9,hX9,k9⟩:=h9);(have hsz:=hbg.1.size);simp only [e9];exact tS OLis.nice _ _ 26 22 rfl tW rfl rfl HAL.out (HAR.out.off hbg.1 (fun k _ ⟨q,g1,_,g3⟩=>HX1.out q k g1 g3)) hX9 rfl (⟨_,rfl,k9.now⟩ : OLis _ _ _ _) (fun k g1 g2=>by have:=k9.base k g1;have:=HFL2.out k g2;omega) (fun k g1=>aJ HBASE.out (k9.base k g1)) (by intro b hb;simp at hb) (aJ HBASE.out hsz) (by simp [Value.oneCell']) (by omega) (by omega) k9.base hsz (fun k hk=>(HX2.out k).2 hk))
  simp only [Act.put,Known.val,aA,aC,aD]
  intro wg hb hf hap
  clear hap
  clear lB4 cB4 fB4
  replace B4:=h! (B4.out.off hb.1 xB4)
  obtain ⟨lB4,cB4,fB4⟩:=B4.out
  simp only [bH,Nat.reduceAdd]
  have h10:∃ S,Holds [] mv wg S (fun W=>iG W S (ν 10) (arrs ++ [x]))/\(∀ k,S k -> F 2 k \/ wr.heap.size <= k) /\ ∃ g cap, ν 10 = .slice (some ⟨g,0,none⟩) (m+1) cap:=hf 10 (by omega)
  obtain ⟨SN,k1,k2,g9,c9,e9⟩:=h10
  rw [e9] at k1
  simp only [e9]
  have hof:Off (F 2) wr wg:=hb.1.mono (fun k _ hk=>HXA.out k hk)
  have HNEW:Hid (MachP mv bs fl (wg.setCell ⟨bq,4,none⟩ (.slice (some ⟨g9,0,none⟩) (m+1) c9)) bq (eY f i np (m+1)) ⟨0,0,0⟩ ov (.slice (some ⟨g9,0,none⟩) (m+1) c9) vv cv mvv mm (newF F 2 SN)):=h! (by rw [<-HNXT.out];exact HPR.out.arrs hof k2 HBASE.out k1.now)
  have HMK:Hid (MOk mv bs fl W1 bq D1 (eY f i np (m+1)) (wg.setCell ⟨bq,4,none⟩ (.slice (some ⟨g9,0,none⟩) (m+1) c9))):=h! (MOk.trans HO2.out HDD2.out (MOk.of HDF.out HNEW.out ((hof.mono fun k _ hk=>⟨2,hk⟩).trans ((Off.set wg ⟨bq,4,none⟩ _).mono fun k _ hk=>⟨0,(HPR.out.b0 k).2 hk⟩)) (iM k2)))
  obtain ⟨lm,cm,fm⟩:=HPR.out.box.off hof NBM.out
  clear lB4 cB4 fB4
  clear hof k1 k2 e9 hf hb HNEW HNXT HPR HDF HAR
  go_wp2
  go_roundw
  case rel=>exact ⟨m+1,hlt,by go_num,HMK.out⟩
  simp [intOf];omega
 obtain rfl:an=m:=by omega
 have HM2:Hid (Mach mv bs fl wr bq D2 (iI f i)):=h! (by
  have h9:=nP f i
  rw [<-HDIM.out.1, <-HDIM.out.2.1,cU] at h9
  rw [<-h9];exact hm2)
 have HND:Hid (∀ k,D2 k -> mv <= k):=h! (fun k hk=>(HDD2.out k hk).elim (HD1.out k) (fun h=>aJ HM1S.out h))
 have hbw:mv <= wr.heap.size:=aJ HM1S.out HO2.out.size
 have HBW:=h! hbw
 have HVZ:Hid (∀ n ∈ (iI f i).visits,n <= (iI f i).steps+1):=h! (fun n hn=>by
  have h9:n ∈ List.replicate f.blocks.length 0:=hn
  have:=bX h9
  omega)
 clear hm2 HDD2 HO2 hbw HM1 HEV hlt
 go_wp2_with fail
 refine (aHE HM2.out HBW.out HEW.out HCH.out HFR.out HFL.out.2.1 (GoodS.start HCH.out) HVZ.out).mono ?_
 rintro e w9 ⟨o,s',ov,av,vv,cv,mv9,m9,F9,rfl,hrun,hP,hof,hsub⟩
 obtain ⟨a1,c1,rfl⟩:=hP.out.ints.form
 obtain ⟨a2,c2,rfl⟩:=hP.vis.ints.form
 obtain ⟨vs3,a3,c3,b3,o3,rfl, -, -, -, -, -, -⟩:=hP.arr.lists.parts
 have HP9:=h! hP
 have HRUN:=h! hrun
 have HW9:Hid (Below w.heap.size w w9):=h! (HW.out.trans (hof.below HW.out.size (fun k _ h=>by have:=HND.out k h;omega)))
 have B69:=h! (B6.out.off hof (fun e=>by have:=HND.out _ e;omega))
 have HF9:Hid (∀ j k,F9 j k -> k ≠ w.heap.size+1+1):=h! (fun j k hk e=>by
  rcases hsub j k hk with h | h
  ·have:=HND.out k h;omega
  have:=HBW.out;omega)
 have HSB:Hid (∀ k,(F9 1 k \/ F9 2 k \/ F9 3 k) -> w.heap.size <= k):=h! (fun k hk=>by
  have h9:∃ j,F9 j k:=by
   rcases hk with h | h | h
   ·exact ⟨1,h⟩
   ·exact ⟨2,h⟩
   exact ⟨3,h⟩
  obtain ⟨j,hj⟩:=h9
  rcases hsub j k hj with h | h
  ·have:=HND.out k h;omega
  have:=HBW.out;omega)
 have HOZ:Hid (OffF (fun k=>k=w.heap.size+1+1) w9 w9):=h! (Off.refl _ _)
 have HN1:Hid ((natI s'.visits).length=s'.visits.length):=h! (by unfold natI;rw [bD])
 clear HW B6 B3 B4 hof hsub hrun
 have HW:=HW9
 have B6:=B69
 clear HW9 B69
 obtain ⟨lB6,cB6,fB6⟩:=B6.out
 obtain ⟨lm,cm,fm⟩:=hP.box
 clear hP
 go_wp2_with fail
 clear lB6 cB6 fB6
 have hO_:=((((((((Only.set w9 (w.heap.size+1+1) 0 (.int .i64 o.how)).put 1 (.int .i64 o.value)).put 2 (.int .i64 o.trap)).put 3 (.slice a1 s'.out.length c1)).put 4 (.slice a3 s'.arrays.length c3)).put 5 (.int .i64 s'.steps)).put 6 (.int .i64 s'.checks)).put 7 (.slice a2 (natI s'.visits).length c2))
 replace HOZ:=h! ((((((((HOZ.out.other (p:=⟨w.heap.size+1+1,0,none⟩) (.int .i64 o.how) (by simp)).other (p:=⟨w.heap.size+1+1,1,none⟩) (.int .i64 o.value) (by simp)).other (p:=⟨w.heap.size+1+1,2,none⟩) (.int .i64 o.trap) (by simp)).other (p:=⟨w.heap.size+1+1,3,none⟩) (.slice a1 s'.out.length c1) (by simp)).other (p:=⟨w.heap.size+1+1,4,none⟩) (.slice a3 s'.arrays.length c3) (by simp)).other (p:=⟨w.heap.size+1+1,5,none⟩) (.int .i64 s'.steps) (by simp)).other (p:=⟨w.heap.size+1+1,6,none⟩) (.int .i64 s'.checks) (by simp)).other (p:=⟨w.heap.size+1+1,7,none⟩) (.slice a2 (natI s'.visits).length c2) (by simp))
 replace HW:=h! (hO_.2.2 HW.out (by first | assumption | omega | (have:=HW.out.size;omega) | (simp;done) | (simp;omega)))
 replace B6:=h! (Box.to (A':=#[(.int .i64 o.how),(.int .i64 o.value),(.int .i64 o.trap),(.slice a1 s'.out.length c1),(.slice a3 s'.arrays.length c3),(.int .i64 s'.steps),(.int .i64 s'.checks),(.slice a2 (natI s'.visits).length c2)]) ((((((((B6.out.set 0 (.int .i64 o.how)).set 1 (.int .i64 o.value)).set 2 (.int .i64 o.trap)).set 3 (.slice a1 s'.out.length c1)).set 4 (.slice a3 s'.arrays.length c3)).set 5 (.int .i64 s'.steps)).set 6 (.int .i64 s'.checks)).set 7 (.slice a2 (natI s'.visits).length c2)) (by first | rfl | simp))
 clear hO_
 generalize ((((((((w9.setCell ⟨w.heap.size+1+1,0,none⟩ (.int .i64 o.how)).setCell ⟨w.heap.size+1+1,1,none⟩ (.int .i64 o.value)).setCell ⟨w.heap.size+1+1,2,none⟩ (.int .i64 o.trap)).setCell ⟨w.heap.size+1+1,3,none⟩ (.slice a1 s'.out.length c1)).setCell ⟨w.heap.size+1+1,4,none⟩ (.slice a3 s'.arrays.length c3)).setCell ⟨w.heap.size+1+1,5,none⟩ (.int .i64 s'.steps)).setCell ⟨w.heap.size+1+1,6,none⟩ (.int .i64 s'.checks)).setCell ⟨w.heap.size+1+1,7,none⟩ (.slice a2 (natI s'.visits).length c2))=wz at *
 obtain ⟨lB6,cB6,fB6⟩:=B6.out
 have HPZ:=h! (HP9.out.keep HOZ.out (fun j k hk e=>HF9.out j k hk e))
 refine bodyPost_ret (v:=.agg #[.int .i64 o.how,.int .i64 o.value,.int .i64 o.trap,.slice a1 s'.out.length c1,.slice a3 s'.arrays.length c3,.int .i64 s'.steps,.int .i64 s'.checks,.slice a2 (natI s'.visits).length c2]) (by simp [results,Tryz.results13,go_sem,cB6]) rfl ⟨_,qD o s',_,rfl,.inr ⟨HCH.out,HFR.out,HFL.out.2.2,o,s',by rw [HFL.out.1];exact HRUN.out,rfl⟩,HPZ.out.trace,HSB.out,HW.out⟩
theorem runC {w:World} {v u:Value} {f:FuncD} {i:InputD} {fuel:Int} (hv:gG w v f) (hi:nA w u i) (hfu:In64 fuel):Calls Tryz.prog 13 #[v,u,.int .i64 fuel] w (RunR f i fuel w) :=
 (runO hv hi hfu).mono fun e w' ⟨x,t,S,h1,h2,h3,_,h5⟩=>⟨x,t,h1,h2,h3.val,h5⟩
end Go.Proofs.YtcmflfkpeodicaaGreat
