/- What the claim needs,part 42. -/
import Derived.OwnWalk
import Derived.Test.YtblgdccoeecodaaQ341
namespace Go.Proofs.Ytblgdccoeecodaa
set_option linter.unusedSimpArgs false
set_option linter.unusedVariables false
open Go.RowKit
theorem codN_keys (b:Nat) (xs:List InstrD) (h:∀ y ∈ xs,(0 <= y.id ↔ (shp0 y.op).result ≠ 0)):∀ k,k <= xs.length -> (codN b xs k).map (·.1)=((xs.take k).filter fun y=>(shp0 y.op).result != 0).map (·.id):=by
 intro k
 induction k with
 | zero=>intro _;simp [codN]
 | succ k ih =>
  intro hk
  obtain ⟨y,hy⟩ : ∃ y,xs[k]? = some y:=⟨_,List.getElem?_eq_getElem (by omega)⟩
  rw [codN_succ hy,take_snoc xs k y hy,List.map_append,List.filter_append,List.map_append,ih (by omega)]
  congr 1
  have h1:=h y (List.mem_of_getElem? hy)
  by_cases h2:0 <= y.id
  ·have h3:=h1.1 h2
   simp [h2,h3]
  ·have h3:(shp0 y.op).result=0:=Classical.byContradiction fun h4=>h2 (h1.2 h4)
   simp [h2,h3]
theorem entB_keys (b:Nat) (x:BlockD) (h:∀ y ∈ x.code,(0 <= y.id ↔ (shp0 y.op).result ≠ 0)):(entB b x).map (·.1)=(defsB x).map (·.1):=by
 unfold entB defsB
 rw [List.map_append,List.map_append,codN_keys b x.code h _ (Nat.le_refl _)]
 simp [phiN,List.map_map,Function.comp_def]
theorem blkN_keys (f:FuncD) (h:∀ x ∈ f.blocks, ∀ y ∈ x.code,(0 <= y.id ↔ (shp0 y.op).result ≠ 0)):∀ c,c <= f.blocks.length -> (blkN f c).map (·.1)=((f.blocks.take c).flatMap defsB).map (·.1):=by
 intro c
 induction c with
 | zero=>intro _;simp [blkN]
 | succ c ih =>
  intro hc
  obtain ⟨x,hx⟩ : ∃ x,f.blocks[c]? = some x:=⟨_,List.getElem?_eq_getElem (by omega)⟩
  rw [blkN_succ hx,take_snoc f.blocks c x hx,List.map_append,List.flatMap_append,List.map_append,ih (by omega),entB_keys c x (h x (List.mem_of_getElem? hx))]
  simp
theorem code_ids {f:FuncD} (h:checkF f=0):∀ x ∈ f.blocks, ∀ y ∈ x.code,(0 <= y.id ↔ (shp0 y.op).result ≠ 0):=by
 intro x hx y hy
 obtain ⟨h1,h2⟩:=check_fine h
 obtain ⟨b,hb⟩:=List.mem_iff_getElem?.1 hx
 constructor
 ·intro h0 hr
  unfold formB at h1
  simp only [Bool.and_eq_true,List.all_eq_true] at h1
  have h3:=h1.2 (x,b) (by rw [List.mem_zipIdx_iff_getElem?];exact hb)
  unfold blockOk at h3
  simp only [Bool.and_eq_true,List.all_eq_true] at h3
  have h4:=h3.1.2 y hy
  unfold instrOk at h4
  simp [hr] at h4
  omega
 ·intro hr
  unfold idsF idsB at h2
  rw [Bool.and_eq_true,List.all_eq_true] at h2
  have h3:=h2.2 (y.id,(shp0 y.op).result) (by
   unfold defsF
   rw [List.mem_flatMap]
   refine ⟨x,hx, ?_⟩
   unfold defsB
   rw [List.mem_append]
   right
   rw [List.mem_map]
   exact ⟨y,List.mem_filter.2 ⟨hy,by simpa using hr⟩,rfl⟩)
  simp at h3
  omega
theorem ent_keys {f:FuncD} (h:checkF f=0):(entF f).map (·.1)=(valsF f).map (·.1):=by
 unfold entF valsF
 rw [List.map_append,List.map_append,parT_keys,blkN_keys f (code_ids h) _ (Nat.le_refl _),List.take_length]
 congr 1
 simp [parN,List.map_map,Function.comp_def]
theorem ent_nodup {f:FuncD} (h:checkF f=0):((entF f).map (·.1)).Nodup:=by
 rw [ent_keys h]
 have h2:=(check_fine h).2
 unfold idsF idsB at h2
 rw [Bool.and_eq_true,decide_eq_true_eq] at h2
 exact h2.1
theorem def_get {f:FuncD} (h:checkF f=0) (id:Int):mget (defM (entF f)) id=((entF f).find? fun e=>e.1 == id).map defV:=defM_get id _ _ rfl (ent_nodup h)
theorem zeroDef (w:World):(zeroValue 133).run Try.prog w = .ok (.agg #[.int .i64 0,.int .i64 0]) w:=by kernel_rfl
def DefOfR (f:FuncD) (id:Int) (w:World) (e:Ending) (w' : World):Prop :=
 ∃ b at_ g:Int,e = .returned (.tuple #[.int .i64 b,.int .i64 at_,.int .i64 g])/\(checkF f ≠ 0 -> b=0/\at_=0/\g=checkF f)/\(checkF f=0 -> ∀ e,((entF f).find? fun e=>e.1 == id)=some e -> b=e.2.1/\at_=e.2.2/\g=0) /\
  (checkF f=0 -> ((entF f).find? fun e=>e.1 == id)=none -> b=0/\at_=0/\g=9)/\Below w.heap.size w w'
set_option maxHeartbeats 12800000 in
set_option maxRecDepth 100000 in
theorem defOf {w:World} {v:Value} {f:FuncD} {id:Int} (hv:FuncV w v f):Calls Try.prog 42 #[v,.int .i64 id] w (DefOfR f id w):=by
 have HV:=Lib.hid hv
 obtain ⟨ap,cp,ab,cb,rfl,hp,ha,hc,hB⟩:=hv.form
 clear hp ha hc hB hv
 go_enter Try.func42,Try.ntmps42
 go_upto_region 1 with (fail)
 have B1:Hid (Box (w.alloc (.cells #[.slice ap f.params.length cp,.int .i64 f.arrays,.int .i64 f.cells,.slice ab f.blocks.length cb] 25)) (w.heap.size) #[.slice ap f.params.length cp,.int .i64 f.arrays,.int .i64 f.cells,.slice ab f.blocks.length cb]):=Lib.hid (by simpa using (Box.new w #[.slice ap f.params.length cp,.int .i64 f.arrays,.int .i64 f.cells,.slice ab f.blocks.length cb] 25))
 have HW:Hid (Below w.heap.size w (w.alloc (.cells #[.slice ap f.params.length cp,.int .i64 f.arrays,.int .i64 f.cells,.slice ab f.blocks.length cb] 25))):=Lib.hid ((Below.refl _ _).alloc (Nat.le_refl _) _)
 generalize (w.alloc (.cells #[.slice ap f.params.length cp,.int .i64 f.arrays,.int .i64 f.cells,.slice ab f.blocks.length cb] 25))=wv at *
 obtain ⟨lB1,cB1,fB1⟩:=B1.out
 go_wp2_with fail
 refine (irCheck (HV.out.below HW.out)).mono ?_
 rintro e w1 ⟨rfl,hb⟩
 clear lB1 cB1 fB1
 replace B1:=Lib.hid (B1.out.later hb)
 replace HW:=Lib.hid (HW.out.trans (hb.mono HW.out.size))
 clear hb
 obtain ⟨lB1,cB1,fB1⟩:=B1.out
 by_cases hc0:checkF f=0
 ·have HC0:=Lib.hid hc0
  have hc1:(checkF f != 0)=false:=by simpa using hc0
  clear hc0
  go_wp2_with fail
  refine (strictDefs (HV.out.below HW.out)).mono ?_
  rintro e w2 ⟨bm,rfl,hm, -,hb⟩
  have HI:=Lib.hid hm
  have HMG:=Lib.hid (def_get HC0.out id)
  clear hm
  clear lB1 cB1 fB1
  replace B1:=Lib.hid (B1.out.later hb)
  replace HW:=Lib.hid (HW.out.trans (hb.mono HW.out.size))
  clear hb
  obtain ⟨lB1,cB1,fB1⟩:=B1.out
  clear lB1 cB1 fB1
  obtain ⟨r,hr⟩ : ∃ r,r=(entF f).find? fun e=>e.1 == id:=⟨_,rfl⟩
  rw [<-hr] at HMG
  have HR:=Lib.hid hr
  clear hr
  cases r with
  | none =>
   go_wp2_with (at_lookup;refine wpList_look (q:=.i64) (z:=.agg #[.int .i64 0,.int .i64 0]) (b:=bm) (mm:=defM (entF f)) (y:=id) rfl _ _ _ rfl Try.underlying125 Try.underlying3 (zeroDef _) rfl HI.out rfl ?_;rw [HMG.out])
   have HWE:=Lib.hid (HW.out.alloc HW.out.size (.cells #[.int .i64 0,.int .i64 0] 133))
   go_ret3
   exact ⟨0,0,9,rfl,(fun h=>absurd HC0.out h),(fun _ e he=>by rw [<-HR.out] at he;cases he),(fun _ _=>⟨rfl,rfl,rfl⟩),HWE.out⟩
  | some e =>
   obtain ⟨e1,e2,e3⟩:=e
   go_upto_region 7 with (at_lookup;refine wpList_look (q:=.i64) (z:=.agg #[.int .i64 0,.int .i64 0]) (b:=bm) (mm:=defM (entF f)) (y:=id) rfl _ _ _ rfl Try.underlying125 Try.underlying3 (zeroDef _) rfl HI.out rfl ?_;rw [HMG.out];simp only [Option.map_some,Option.getD_some,Option.isSome_some,defV])
   go_quiet (fail)
   go_wp2
   go_ret3
   exact ⟨e2,e3,0,rfl,(fun h=>absurd HC0.out h),(fun _ e he=>by rw [<-HR.out] at he;cases he;exact ⟨rfl,rfl,rfl⟩),(fun _ he=>by rw [<-HR.out] at he;cases he),below_drewN (HW.out.alloc HW.out.size (.cells #[.int .i64 e2,.int .i64 e3] 133)) _⟩
 ·have hc1:(checkF f != 0)=true:=by simpa using hc0
  have HC0:=Lib.hid hc0
  clear hc0
  go_wp2
  go_ret3
  exact ⟨0,0,checkF f,rfl,(fun _=>⟨rfl,rfl,rfl⟩),(fun h=>absurd h HC0.out),(fun h=>absurd h HC0.out),HW.out⟩
end Go.Proofs.Ytblgdccoeecodaa
namespace Go.Proofs.Ytblgdccoeecodaa
set_option linter.unusedSimpArgs false
set_option linter.unusedVariables false
open Go.RowKit
section
variable {P:Program} {w:World}
theorem IMap.lookup0 {t k e:TypeId} {q:IntKind} {b:Nat} {m:List (Int × Value)} (h:IMap w b m) (ht:P.underlying t=some (.map k e)) (hk:P.underlying k=some (.int q)) {z:Value} (hz:(zeroValue e).run P w = .ok z w) (x:Int) :
  (Instr.lookup t (.map (some b)) (.int .i64 x) false).run P w = .ok ((mget m x).getD z) w:=by
 obtain ⟨es,c,hh,hm,_⟩:=h.ex
 have hf:=findKey_run (P:=P) (w:=w) hk x hm
 unfold Instr.lookup
 have hg:(Sem.getObj b Sem.pure:Sem Obj).run P w = .ok (.map es c) w:=by simp [Sem.run,hh]
 rw [mget_idx]
 simp only [Sem.run_bind,run_underlying ht,Result.andThen,getObj,hg,Sem.run_pure,checkKey_int hk,hf]
 cases hi:(m.findIdx? (fun p=>p.1 == x)) with
 | none=>simp [hz,Result.andThen,Sem.run_pure]
 | some j =>
  simp only [Option.bind_some]
  cases hj:m[j]? with
  | none=>simp [hz,Result.andThen,Sem.run_pure]
  | some p=>simp [Result.andThen,Sem.run_pure]
variable {ops:Array Oper} {rest:List Oper} {o:Oper} {a:Act} {Q:Exit -> Act -> World -> Prop}
theorem wpList_look0 (hg:o.guard=none) (m x:Operand) (t:TypeId) (hop:o.op=Op.lookup t m x false) {k e:TypeId} {q:IntKind} (ht:P.underlying t=some (.map k e)) (hk:P.underlying k=some (.int q)) {z:Value} (hz:(zeroValue e).run P w = .ok z w)
  {b:Nat} {mm:List (Int × Value)} (hm:a.eval m = .map (some b)) (h:IMap w b mm) {y:Int} (hx:a.eval x = .int .i64 y) (hK:wpList P ops Q rest (a.put o.dst ((mget mm y).getD z)) w):wpList P ops Q (o :: rest) a w:=by
 refine wpList_plain hg fun K' hK' => ?_
 unfold Oper.wp
 simp [execOp,hop,hm,hx,h.lookup0 ht hk hz y,Result.andThen]
 exact hK' _ _ hK
end
set_option maxHeartbeats 1600000 in
theorem idxNoneP {w:World} {k:Value}:Calls Try.prog 124 #[.slice none 0 0,k] w fun e w'=>e = .returned (.int .i64 (-1))/\w=w':=by
 go_enter Try.func124,Try.ntmps124
 go_wp2_with fail
 go_loopw [8] (fun i wr=>i = .int .i64 0/\wr=w) (fun _ _=>0)
 case atStart=>exact ⟨rfl,rfl⟩
 case round =>
  obtain ⟨rfl,rfl⟩:=hrel
  go_wp2
  go_ret
  exact ⟨rfl,rfl⟩
set_option maxHeartbeats 1600000 in
theorem idxNoneI {w:World} {k:Value}:Calls Try.prog 128 #[.slice none 0 0,k] w fun e w'=>e = .returned (.int .i64 (-1))/\w=w':=by
 go_enter Try.func128,Try.ntmps128
 go_wp2_with fail
 go_loopw [8] (fun i wr=>i = .int .i64 0/\wr=w) (fun _ _=>0)
 case atStart=>exact ⟨rfl,rfl⟩
 case round =>
  obtain ⟨rfl,rfl⟩:=hrel
  go_wp2
  go_ret
  exact ⟨rfl,rfl⟩
set_option maxHeartbeats 1600000 in
theorem contNoneP {w:World} {k:Value}:Calls Try.prog 87 #[.slice none 0 0,k] w fun e w'=>e = .returned (.bool false)/\w=w':=by
 go_enter Try.func87,Try.ntmps87
 go_wp2_with fail
 refine idxNoneP.mono ?_
 rintro e w2 ⟨rfl,rfl⟩
 go_wp2
 go_ret
 exact ⟨rfl,rfl⟩
set_option maxHeartbeats 1600000 in
theorem contNoneI {w:World} {k:Value}:Calls Try.prog 92 #[.slice none 0 0,k] w fun e w'=>e = .returned (.bool false)/\w=w':=by
 go_enter Try.func92,Try.ntmps92
 go_wp2_with fail
 refine idxNoneI.mono ?_
 rintro e w2 ⟨rfl,rfl⟩
 go_wp2
 go_ret
 exact ⟨rfl,rfl⟩
set_option maxHeartbeats 3200000 in
theorem aheadS {w:World} {bs bm:Nat} {A1 A2:Value} {m:List (Int × Value)} (hS:Box w bs #[A1,A2,.map (some bm)]) (hm:IMap w bm m) (hg:mget m 0=some (.agg #[.int .i64 0,.int .i64 0])) :
  Calls Try.prog 94 #[.pointer (some ⟨bs,0,none⟩),.int .i64 0,.int .i64 0,.int .i64 1] w fun e w'=>e = .returned (.bool true)/\Below w.heap.size w w':=by
 have HI:=Lib.hid hm
 have HG:=Lib.hid hg
 obtain ⟨l1,c1,f1⟩:=hS
 clear hm hg
 go_enter Try.func94,Try.ntmps94
 go_wp2_with (at_lookup;refine wpList_look0 (q:=.i64) (z:=.agg #[.int .i64 0,.int .i64 0]) (b:=bm) (mm:=m) (y:=0) rfl _ _ _ rfl Try.underlying125 Try.underlying3 (zeroDef _) rfl HI.out rfl ?_;rw [HG.out];simp only [Option.getD_some])
 have HW:=Lib.hid ((Below.refl w.heap.size w).alloc (Nat.le_refl _) (.cells #[.int .i64 0,.int .i64 0] 133))
 go_ret
 exact ⟨rfl,HW.out⟩
end Go.Proofs.Ytblgdccoeecodaa
namespace Go.Proofs.Ytblgdccoeecodaa
set_option linter.unusedSimpArgs false
set_option linter.unusedVariables false
open Go.RowKit
structure SimpleS (W:World) (bs bt bg bb ci bm:Nat) (A2:Value) (m:List (Int × Value)):Prop where
 s:Box W bs #[.pointer (some ⟨bt,0,none⟩),A2,.map (some bm)]
 t:W.cell? ⟨bt,0,none⟩=some (.pointer (some ⟨bg,0,none⟩))
 g:W.cell? ⟨bg,3,none⟩=some (.slice (some ⟨bb,0,none⟩) 1 1)
 b:Box W bb #[.slice none 0 0,.slice (some ⟨ci,0,none⟩) 1 1,.int .i64 3,.int .i64 0,.slice none 0 0,.int .i64 0]
 c:Box W ci #[.int .i64 1,.int .i64 0,.slice none 0 0,.int .i64 5]
 mp:IMap W bm m
 mg:mget m 0=some (.agg #[.int .i64 0,.int .i64 0])
theorem SimpleS.later {W W' : World} {bs bt bg bb ci bm:Nat} {A2:Value} {m:List (Int × Value)} (h:SimpleS W bs bt bg bb ci bm A2 m) (hb:Below W.heap.size W W'):SimpleS W' bs bt bg bb ci bm A2 m :=
 ⟨h.s.later hb,(hb.cell (World.block_lt_of_cell? W _ h.t)).trans h.t,(hb.cell (World.block_lt_of_cell? W _ h.g)).trans h.g,h.b.later hb,h.c.later hb,h.mp.later hb,h.mg⟩
set_option maxHeartbeats 6400000 in
set_option maxRecDepth 100000 in
theorem phisS {w:World} {bs bt bg bb ci bm:Nat} {A2:Value} {m:List (Int × Value)} (hS:SimpleS w bs bt bg bb ci bm A2 m) :
  Calls Try.prog 63 #[.pointer (some ⟨bs,0,none⟩),.int .i64 0] w fun e w'=>e = .returned (.bool true)/\Below w.heap.size w w':=by
 have HS:=Lib.hid hS
 clear hS
 go_enter Try.func63,Try.ntmps63
 go_upto_region 1 with (fail)
 have B1:Hid (Box ((w.alloc (.cells #[.pointer (some ⟨bs,0,none⟩)] 85)).alloc (.cells #[.int .i64 0] 3)) (w.heap.size) #[.pointer (some ⟨bs,0,none⟩)]):=Lib.hid (by simpa using ((Box.new w #[.pointer (some ⟨bs,0,none⟩)] 85).alloc _))
 have B2:Hid (Box ((w.alloc (.cells #[.pointer (some ⟨bs,0,none⟩)] 85)).alloc (.cells #[.int .i64 0] 3)) (w.heap.size+1) #[.int .i64 0]):=Lib.hid (by simpa using (Box.new (w.alloc (.cells #[.pointer (some ⟨bs,0,none⟩)] 85)) #[.int .i64 0] 3))
 have HW:Hid (Below w.heap.size w ((w.alloc (.cells #[.pointer (some ⟨bs,0,none⟩)] 85)).alloc (.cells #[.int .i64 0] 3))):=Lib.hid (((Below.refl _ _).alloc (Nat.le_refl _) _).alloc (by simp) _)
 generalize ((w.alloc (.cells #[.pointer (some ⟨bs,0,none⟩)] 85)).alloc (.cells #[.int .i64 0] 3))=wv at *
 obtain ⟨lB1,cB1,fB1⟩:=B1.out
 obtain ⟨lB2,cB2,fB2⟩:=B2.out
 have HS2:=Lib.hid (HS.out.later HW.out)
 refine wp_region_grow 19 (fun kz=>match kz with | 16=>.const (.bool false) | _=>.plain) (by kernel_rfl) (by kernel_rfl) ?_ (fun ν => ?_)
 ·(intro k;(try dsimp only);split <;> first | exact True.intro | (intro u w1 w2 hu hb;exact hu.below hb))
 simp only [List.take_succ_cons,List.take_zero,List.drop_succ_cons,List.drop_zero]
 iterate 16 (refine Grow.val (v := ?_) rfl rfl (fun wg hbg hdg => ?_) ?_;rotate_left;(focus ((obtain ⟨lg0,cg0,fg0⟩:=B1.out.later hbg);(obtain ⟨lg1,cg1,fg1⟩:=B2.out.later hbg);(obtain ⟨⟨xl1,xc1,xf1⟩,xt,xg,⟨xl2,xc2,xf2⟩, -, -, -⟩:=HS2.out.later hbg);clear hbg hdg;first | (go_simp;done) | (go_simp;with_reducible rfl)));simp only [Act.put,List.setIfInBounds_toArray,List.set_cons_zero,List.set_cons_succ])
 refine Grow.call (f := ?_) (args := ?_) rfl (fun wg => ?_) (fun wg hbg hdg => ?_) ?_
 rotate_left 2
 focus (first | (go_simp;done) | (go_simp;refine And.intro ?_ ?_ <;> with_reducible rfl) | (go_simp;with_reducible rfl))
 focus (exact contNoneP.mono (fun e w2 ⟨he,hb2⟩=>⟨_,he,rfl,hb2 ▸ Below.refl _ _⟩))
 simp only [Act.put,Known.val,List.setIfInBounds_toArray,List.set_cons_zero,List.set_cons_succ]
 iterate 2 (refine Grow.val (v := ?_) rfl rfl (fun wg hbg hdg => ?_) ?_;rotate_left;(focus ((obtain ⟨lg0,cg0,fg0⟩:=B1.out.later hbg);(obtain ⟨lg1,cg1,fg1⟩:=B2.out.later hbg);(obtain ⟨⟨xl1,xc1,xf1⟩,xt,xg,⟨xl2,xc2,xf2⟩, -, -, -⟩:=HS2.out.later hbg);clear hbg hdg;first | (go_simp;done) | (go_simp;with_reducible rfl)));simp only [Act.put,List.setIfInBounds_toArray,List.set_cons_zero,List.set_cons_succ])
 intro wg hb hf hap
 clear hap
 clear lB1 cB1 fB1 lB2 cB2 fB2
 replace B1:=Lib.hid (B1.out.later hb)
 replace B2:=Lib.hid (B2.out.later hb)
 replace HW:=Lib.hid (HW.out.trans (hb.mono HW.out.size))
 clear hb
 obtain ⟨lB1,cB1,fB1⟩:=B1.out
 obtain ⟨lB2,cB2,fB2⟩:=B2.out
 clear hf
 go_wp2
 go_ret
 exact ⟨rfl,HW.out⟩
set_option maxHeartbeats 12800000 in
set_option maxRecDepth 100000 in
theorem usesS {w:World} {bs bt bg bb ci bm:Nat} {A2:Value} {m:List (Int × Value)} (hS:SimpleS w bs bt bg bb ci bm A2 m) :
  Calls Try.prog 64 #[.pointer (some ⟨bs,0,none⟩),.int .i64 0] w fun e w'=>e = .returned (.bool true)/\Below w.heap.size w w':=by
 have HS:=Lib.hid hS
 clear hS
 go_enter Try.func64,Try.ntmps64
 go_upto_region 1 with (fail)
 have B1:Hid (Box ((w.alloc (.cells #[.pointer (some ⟨bs,0,none⟩)] 85)).alloc (.cells #[.int .i64 0] 3)) (w.heap.size) #[.pointer (some ⟨bs,0,none⟩)]):=Lib.hid (by simpa using ((Box.new w #[.pointer (some ⟨bs,0,none⟩)] 85).alloc _))
 have B2:Hid (Box ((w.alloc (.cells #[.pointer (some ⟨bs,0,none⟩)] 85)).alloc (.cells #[.int .i64 0] 3)) (w.heap.size+1) #[.int .i64 0]):=Lib.hid (by simpa using (Box.new (w.alloc (.cells #[.pointer (some ⟨bs,0,none⟩)] 85)) #[.int .i64 0] 3))
 have HW:Hid (Below w.heap.size w ((w.alloc (.cells #[.pointer (some ⟨bs,0,none⟩)] 85)).alloc (.cells #[.int .i64 0] 3))):=Lib.hid (((Below.refl _ _).alloc (Nat.le_refl _) _).alloc (by simp) _)
 generalize ((w.alloc (.cells #[.pointer (some ⟨bs,0,none⟩)] 85)).alloc (.cells #[.int .i64 0] 3))=wv at *
 obtain ⟨lB1,cB1,fB1⟩:=B1.out
 obtain ⟨lB2,cB2,fB2⟩:=B2.out
 have HS2:=Lib.hid (HS.out.later HW.out)
 refine wp_region_grow 15 (fun kz=>match kz with | 14=>.made wv.heap.size (fun b=>.pointer (some ⟨b,0,none⟩)) #[.slice none 0 0,.slice none 0 0,.int .i64 0,.int .i64 0,.slice none 0 0,.int .i64 0] | _=>.plain) (by kernel_rfl) (by kernel_rfl) ?_ (fun ν => ?_)
 ·(intro k;(try dsimp only);split <;> first | exact True.intro | (intro u w1 w2 hu hb;exact hu.below hb))
 simp only [List.take_succ_cons,List.take_zero,List.drop_succ_cons,List.drop_zero]
 iterate 14 (refine Grow.val (v := ?_) rfl rfl (fun wg hbg hdg => ?_) ?_;rotate_left;(focus ((obtain ⟨lg0,cg0,fg0⟩:=B1.out.later hbg);(obtain ⟨lg1,cg1,fg1⟩:=B2.out.later hbg);(obtain ⟨⟨xl1,xc1,xf1⟩,xt,xg,⟨xl2,xc2,xf2⟩, -, -, -⟩:=HS2.out.later hbg);clear hbg hdg;first | (go_simp;done) | (go_simp;with_reducible rfl)));simp only [Act.put,List.setIfInBounds_toArray,List.set_cons_zero,List.set_cons_succ])
 refine Grow.made (T := ?_) rfl rfl (fun wg hbg hdg => ?_) ?_
 rotate_left
 focus ((obtain ⟨lg0,cg0,fg0⟩:=B1.out.later hbg);(obtain ⟨lg1,cg1,fg1⟩:=B2.out.later hbg);(obtain ⟨⟨xl1,xc1,xf1⟩,xt,xg,⟨xl2,xc2,xf2⟩, -, -, -⟩:=HS2.out.later hbg);clear hbg hdg;first | (go_simp;done) | (go_simp;with_reducible rfl))
 simp only [Act.put,Known.val,List.setIfInBounds_toArray,List.set_cons_zero,List.set_cons_succ]
 intro wg hb hf hap
 obtain ⟨bBK,hνBK,hBBK,hXBK⟩:=hf 14 (by omega)
 have nBKB1:bBK ≠ w.heap.size:=fun e=>by have:=lB1;omega
 have nB1BK:w.heap.size ≠ bBK:=fun e=>nBKB1 e.symm
 have nBKB2:bBK ≠ w.heap.size+1:=fun e=>by have:=lB2;omega
 have nB2BK:w.heap.size+1 ≠ bBK:=fun e=>nBKB2 e.symm
 simp only [hνBK]
 clear hνBK
 clear hap
 have gBK:=Nat.le_trans HW.out.size hBBK
 clear hBBK
 clear lB1 cB1 fB1 lB2 cB2 fB2
 replace B1:=Lib.hid (B1.out.later hb)
 replace B2:=Lib.hid (B2.out.later hb)
 replace HW:=Lib.hid (HW.out.trans (hb.mono HW.out.size))
 clear hb
 have BK:=Lib.hid hXBK
 clear hXBK
 obtain ⟨lB1,cB1,fB1⟩:=B1.out
 obtain ⟨lB2,cB2,fB2⟩:=B2.out
 obtain ⟨lBK,cBK,fBK⟩:=BK.out
 clear hf HS2
 go_upto_region 2 with (fail)
 have B1_:Box ((((((wg.setCell ⟨bBK,0,none⟩ (.slice none 0 0)).setCell ⟨bBK,1,none⟩ (.slice (some ⟨ci,0,none⟩) 1 1)).setCell ⟨bBK,2,none⟩ (.int .i64 3)).setCell ⟨bBK,3,none⟩ (.int .i64 0)).setCell ⟨bBK,4,none⟩ (.slice none 0 0)).setCell ⟨bBK,5,none⟩ (.int .i64 0)) (w.heap.size) #[.pointer (some ⟨bs,0,none⟩)]:=by simpa using ((((((B1.out.other (p:=⟨bBK,0,none⟩) (.slice none 0 0) (by first | assumption | (simp;done) | omega | (dsimp only;omega))).other (p:=⟨bBK,1,none⟩) (.slice (some ⟨ci,0,none⟩) 1 1) (by first | assumption | (simp;done) | omega | (dsimp only;omega))).other (p:=⟨bBK,2,none⟩) (.int .i64 3) (by first | assumption | (simp;done) | omega | (dsimp only;omega))).other (p:=⟨bBK,3,none⟩) (.int .i64 0) (by first | assumption | (simp;done) | omega | (dsimp only;omega))).other (p:=⟨bBK,4,none⟩) (.slice none 0 0) (by first | assumption | (simp;done) | omega | (dsimp only;omega))).other (p:=⟨bBK,5,none⟩) (.int .i64 0) (by first | assumption | (simp;done) | omega | (dsimp only;omega)))
 have B2_:Box ((((((wg.setCell ⟨bBK,0,none⟩ (.slice none 0 0)).setCell ⟨bBK,1,none⟩ (.slice (some ⟨ci,0,none⟩) 1 1)).setCell ⟨bBK,2,none⟩ (.int .i64 3)).setCell ⟨bBK,3,none⟩ (.int .i64 0)).setCell ⟨bBK,4,none⟩ (.slice none 0 0)).setCell ⟨bBK,5,none⟩ (.int .i64 0)) (w.heap.size+1) #[.int .i64 0]:=by simpa using ((((((B2.out.other (p:=⟨bBK,0,none⟩) (.slice none 0 0) (by first | assumption | (simp;done) | omega | (dsimp only;omega))).other (p:=⟨bBK,1,none⟩) (.slice (some ⟨ci,0,none⟩) 1 1) (by first | assumption | (simp;done) | omega | (dsimp only;omega))).other (p:=⟨bBK,2,none⟩) (.int .i64 3) (by first | assumption | (simp;done) | omega | (dsimp only;omega))).other (p:=⟨bBK,3,none⟩) (.int .i64 0) (by first | assumption | (simp;done) | omega | (dsimp only;omega))).other (p:=⟨bBK,4,none⟩) (.slice none 0 0) (by first | assumption | (simp;done) | omega | (dsimp only;omega))).other (p:=⟨bBK,5,none⟩) (.int .i64 0) (by first | assumption | (simp;done) | omega | (dsimp only;omega)))
 have BK_:Box ((((((wg.setCell ⟨bBK,0,none⟩ (.slice none 0 0)).setCell ⟨bBK,1,none⟩ (.slice (some ⟨ci,0,none⟩) 1 1)).setCell ⟨bBK,2,none⟩ (.int .i64 3)).setCell ⟨bBK,3,none⟩ (.int .i64 0)).setCell ⟨bBK,4,none⟩ (.slice none 0 0)).setCell ⟨bBK,5,none⟩ (.int .i64 0)) (bBK) #[(.slice none 0 0),(.slice (some ⟨ci,0,none⟩) 1 1),(.int .i64 3),(.int .i64 0),(.slice none 0 0),(.int .i64 0)]:=by simpa using ((((((BK.out.set 0 (.slice none 0 0)).set 1 (.slice (some ⟨ci,0,none⟩) 1 1)).set 2 (.int .i64 3)).set 3 (.int .i64 0)).set 4 (.slice none 0 0)).set 5 (.int .i64 0))
 have HW_:Below w.heap.size w ((((((wg.setCell ⟨bBK,0,none⟩ (.slice none 0 0)).setCell ⟨bBK,1,none⟩ (.slice (some ⟨ci,0,none⟩) 1 1)).setCell ⟨bBK,2,none⟩ (.int .i64 3)).setCell ⟨bBK,3,none⟩ (.int .i64 0)).setCell ⟨bBK,4,none⟩ (.slice none 0 0)).setCell ⟨bBK,5,none⟩ (.int .i64 0)):=((((((HW.out.setCell (p:=⟨bBK,0,none⟩) (by first | assumption | omega | (dsimp only;omega) | (have:=HW.out.size;omega) | (simp;done) | (simp;omega)) (.slice none 0 0)).setCell (p:=⟨bBK,1,none⟩) (by first | assumption | omega | (dsimp only;omega) | (have:=HW.out.size;omega) | (simp;done) | (simp;omega)) (.slice (some ⟨ci,0,none⟩) 1 1)).setCell (p:=⟨bBK,2,none⟩) (by first | assumption | omega | (dsimp only;omega) | (have:=HW.out.size;omega) | (simp;done) | (simp;omega)) (.int .i64 3)).setCell (p:=⟨bBK,3,none⟩) (by first | assumption | omega | (dsimp only;omega) | (have:=HW.out.size;omega) | (simp;done) | (simp;omega)) (.int .i64 0)).setCell (p:=⟨bBK,4,none⟩) (by first | assumption | omega | (dsimp only;omega) | (have:=HW.out.size;omega) | (simp;done) | (simp;omega)) (.slice none 0 0)).setCell (p:=⟨bBK,5,none⟩) (by first | assumption | omega | (dsimp only;omega) | (have:=HW.out.size;omega) | (simp;done) | (simp;omega)) (.int .i64 0))
 clear lB1 cB1 fB1 lB2 cB2 fB2 lBK cBK fBK
 clear B1 B2 BK HW
 generalize ((((((wg.setCell ⟨bBK,0,none⟩ (.slice none 0 0)).setCell ⟨bBK,1,none⟩ (.slice (some ⟨ci,0,none⟩) 1 1)).setCell ⟨bBK,2,none⟩ (.int .i64 3)).setCell ⟨bBK,3,none⟩ (.int .i64 0)).setCell ⟨bBK,4,none⟩ (.slice none 0 0)).setCell ⟨bBK,5,none⟩ (.int .i64 0))=w2 at *
 have B1:=Lib.hid B1_
 clear B1_
 have B2:=Lib.hid B2_
 clear B2_
 have BK:=Lib.hid BK_
 clear BK_
 have HW:=Lib.hid HW_
 clear HW_
 obtain ⟨lB1,cB1,fB1⟩:=B1.out
 obtain ⟨lB2,cB2,fB2⟩:=B2.out
 obtain ⟨lBK,cBK,fBK⟩:=BK.out
 go_wp2_with fail
 go_loopw [30] (fun i wr=>i = .int .i64 0/\wr=w2) (fun _ _=>0)
 case atStart=>exact ⟨rfl,rfl⟩
 case round =>
  obtain ⟨rfl,he⟩:=hrel
  subst he
  go_wp2_with fail
  go_loopw [65] (fun i wr' => ∃ j:Nat,j <= 1/\i = .int .i64 j/\Below w.heap.size w wr' /\ Box wr' w.heap.size #[.pointer (some ⟨bs,0,none⟩)]/\Box wr' (w.heap.size+1) #[.int .i64 0]/\Box wr' bBK #[.slice none 0 0,.slice (some ⟨ci,0,none⟩) 1 1,.int .i64 3,.int .i64 0,.slice none 0 0,.int .i64 0]) (fun i _=>1 - (intOf i).toNat)
  case atStart=>exact ⟨0,by omega,rfl,HW.out,B1.out,B2.out,BK.out⟩
  case round =>
   obtain ⟨j,hj,rfl,hW,hB1,hB2,hBK⟩:=hrel
   clear lB1 cB1 fB1 lB2 cB2 fB2 lBK cBK fBK
   replace HW:=Lib.hid hW
   replace B1:=Lib.hid hB1
   replace B2:=Lib.hid hB2
   replace BK:=Lib.hid hBK
   have HS2:=Lib.hid (HS.out.later HW.out)
   clear hW hB1 hB2 hBK
   generalize wr=w5 at *

   obtain ⟨lB1,cB1,fB1⟩:=B1.out
   obtain ⟨lB2,cB2,fB2⟩:=B2.out
   obtain ⟨lBK,cBK,fBK⟩:=BK.out
   obtain ⟨⟨cl1,cc1,cf1⟩⟩ : Nonempty (Box w5 ci #[.int .i64 1,.int .i64 0,.slice none 0 0,.int .i64 5]):=⟨HS2.out.c⟩
   by_cases hlt:j < 1
   ·obtain rfl:j=0:=by omega
    go_upto_region 15 with (fail)
    clear cl1 cc1 cf1
    have nB10B1:w5.heap.size ≠ w.heap.size:=fun e=>by have:=lB1;omega
    have nB1B10:w.heap.size ≠ w5.heap.size:=fun e=>nB10B1 e.symm
    have nB10B2:w5.heap.size ≠ w.heap.size+1:=fun e=>by have:=lB2;omega
    have nB2B10:w.heap.size+1 ≠ w5.heap.size:=fun e=>nB10B2 e.symm
    have nB10BK:w5.heap.size ≠ bBK:=fun e=>by have:=lBK;omega
    have nBKB10:bBK ≠ w5.heap.size:=fun e=>nB10BK e.symm
    have nB11B1:w5.heap.size+1 ≠ w.heap.size:=fun e=>by have:=lB1;omega
    have nB1B11:w.heap.size ≠ w5.heap.size+1:=fun e=>nB11B1 e.symm
    have nB11B2:w5.heap.size+1 ≠ w.heap.size+1:=fun e=>by have:=lB2;omega
    have nB2B11:w.heap.size+1 ≠ w5.heap.size+1:=fun e=>nB11B2 e.symm
    have nB11BK:w5.heap.size+1 ≠ bBK:=fun e=>by have:=lBK;omega
    have nBKB11:bBK ≠ w5.heap.size+1:=fun e=>nB11BK e.symm
    have nB11B10:w5.heap.size+1 ≠ w5.heap.size:=by omega
    have nB10B11:w5.heap.size ≠ w5.heap.size+1:=by omega
    have B1_:Box ((w5.alloc (.cells #[.int .i64 0] 3)).alloc (.cells #[.int .i64 1,.int .i64 0,.slice none 0 0,.int .i64 5] 80)) (w.heap.size) #[.pointer (some ⟨bs,0,none⟩)]:=by simpa using ((B1.out.alloc _).alloc _)
    have B2_:Box ((w5.alloc (.cells #[.int .i64 0] 3)).alloc (.cells #[.int .i64 1,.int .i64 0,.slice none 0 0,.int .i64 5] 80)) (w.heap.size+1) #[.int .i64 0]:=by simpa using ((B2.out.alloc _).alloc _)
    have BK_:Box ((w5.alloc (.cells #[.int .i64 0] 3)).alloc (.cells #[.int .i64 1,.int .i64 0,.slice none 0 0,.int .i64 5] 80)) (bBK) #[(.slice none 0 0),(.slice (some ⟨ci,0,none⟩) 1 1),(.int .i64 3),(.int .i64 0),(.slice none 0 0),(.int .i64 0)]:=by simpa using ((BK.out.alloc _).alloc _)
    have B10_:Box ((w5.alloc (.cells #[.int .i64 0] 3)).alloc (.cells #[.int .i64 1,.int .i64 0,.slice none 0 0,.int .i64 5] 80)) (w5.heap.size) #[.int .i64 0]:=by simpa using ((Box.new w5 #[.int .i64 0] 3).alloc _)
    have B11_:Box ((w5.alloc (.cells #[.int .i64 0] 3)).alloc (.cells #[.int .i64 1,.int .i64 0,.slice none 0 0,.int .i64 5] 80)) (w5.heap.size+1) #[.int .i64 1,.int .i64 0,.slice none 0 0,.int .i64 5]:=by simpa using (Box.new (w5.alloc (.cells #[.int .i64 0] 3)) #[.int .i64 1,.int .i64 0,.slice none 0 0,.int .i64 5] 80)
    have HW_:Below w.heap.size w ((w5.alloc (.cells #[.int .i64 0] 3)).alloc (.cells #[.int .i64 1,.int .i64 0,.slice none 0 0,.int .i64 5] 80)):=((HW.out.alloc (by first | exact Nat.le_refl _ | exact HW.out.size | (simp only [World.size_alloc,World.size_setCell];have:=HW.out.size;omega)) _).alloc (by first | exact Nat.le_refl _ | exact HW.out.size | (simp only [World.size_alloc,World.size_setCell];have:=HW.out.size;omega)) _)
    clear lB1 cB1 fB1 lB2 cB2 fB2 lBK cBK fBK
    clear B1 B2 BK HW
    generalize ((w5.alloc (.cells #[.int .i64 0] 3)).alloc (.cells #[.int .i64 1,.int .i64 0,.slice none 0 0,.int .i64 5] 80))=w6 at *
    have B1:=Lib.hid B1_
    clear B1_
    have B2:=Lib.hid B2_
    clear B2_
    have BK:=Lib.hid BK_
    clear BK_
    have B10:=Lib.hid B10_
    clear B10_
    have B11:=Lib.hid B11_
    clear B11_
    have HW:=Lib.hid HW_
    clear HW_
    obtain ⟨lB1,cB1,fB1⟩:=B1.out
    obtain ⟨lB2,cB2,fB2⟩:=B2.out
    obtain ⟨lBK,cBK,fBK⟩:=BK.out
    obtain ⟨lB10,cB10,fB10⟩:=B10.out
    obtain ⟨lB11,cB11,fB11⟩:=B11.out
    go_wp2_with fail
    refine contNoneI.mono ?_
    rintro e w7 ⟨rfl,rfl⟩
    go_wp2
    go_roundw
    case rel=>exact ⟨1,by omega,by go_num,HW.out,B1.out,B2.out,BK.out⟩
    case measure=>simp [intOf]
   ·obtain rfl:j=1:=by omega
    clear cl1 cc1 cf1
    go_upto_region 19 with (fail)
    have nB12B1:w5.heap.size ≠ w.heap.size:=fun e=>by have:=lB1;omega
    have nB1B12:w.heap.size ≠ w5.heap.size:=fun e=>nB12B1 e.symm
    have nB12B2:w5.heap.size ≠ w.heap.size+1:=fun e=>by have:=lB2;omega
    have nB2B12:w.heap.size+1 ≠ w5.heap.size:=fun e=>nB12B2 e.symm
    have nB12BK:w5.heap.size ≠ bBK:=fun e=>by have:=lBK;omega
    have nBKB12:bBK ≠ w5.heap.size:=fun e=>nB12BK e.symm
    have B1_:Box (w5.alloc (.cells #[.int .i64 3,.int .i64 0,.slice none 0 0,.int .i64 0] 54)) (w.heap.size) #[.pointer (some ⟨bs,0,none⟩)]:=by simpa using (B1.out.alloc _)
    have B2_:Box (w5.alloc (.cells #[.int .i64 3,.int .i64 0,.slice none 0 0,.int .i64 0] 54)) (w.heap.size+1) #[.int .i64 0]:=by simpa using (B2.out.alloc _)
    have BK_:Box (w5.alloc (.cells #[.int .i64 3,.int .i64 0,.slice none 0 0,.int .i64 0] 54)) (bBK) #[(.slice none 0 0),(.slice (some ⟨ci,0,none⟩) 1 1),(.int .i64 3),(.int .i64 0),(.slice none 0 0),(.int .i64 0)]:=by simpa using (BK.out.alloc _)
    have B12_:Box (w5.alloc (.cells #[.int .i64 3,.int .i64 0,.slice none 0 0,.int .i64 0] 54)) (w5.heap.size) #[.int .i64 3,.int .i64 0,.slice none 0 0,.int .i64 0]:=by simpa using (Box.new w5 #[.int .i64 3,.int .i64 0,.slice none 0 0,.int .i64 0] 54)
    have HW_:Below w.heap.size w (w5.alloc (.cells #[.int .i64 3,.int .i64 0,.slice none 0 0,.int .i64 0] 54)):=(HW.out.alloc (by first | exact Nat.le_refl _ | exact HW.out.size | (simp only [World.size_alloc,World.size_setCell];have:=HW.out.size;omega)) _)
    clear lB1 cB1 fB1 lB2 cB2 fB2 lBK cBK fBK
    clear B1 B2 BK HW
    generalize (w5.alloc (.cells #[.int .i64 3,.int .i64 0,.slice none 0 0,.int .i64 0] 54))=w6 at *
    have B1:=Lib.hid B1_
    clear B1_
    have B2:=Lib.hid B2_
    clear B2_
    have BK:=Lib.hid BK_
    clear BK_
    have B12:=Lib.hid B12_
    clear B12_
    have HW:=Lib.hid HW_
    clear HW_
    obtain ⟨lB1,cB1,fB1⟩:=B1.out
    obtain ⟨lB2,cB2,fB2⟩:=B2.out
    obtain ⟨lBK,cBK,fBK⟩:=BK.out
    obtain ⟨lB12,cB12,fB12⟩:=B12.out
    go_wp2_with fail
    replace HS2:=Lib.hid (HS.out.later HW.out)
    refine (aheadS HS2.out.s HS2.out.mp HS2.out.mg).mono ?_
    rintro e w7 ⟨rfl,hb⟩
    clear lB1 cB1 fB1 lB2 cB2 fB2 lBK cBK fBK lB12 cB12 fB12
    replace B1:=Lib.hid (B1.out.later hb)
    replace B2:=Lib.hid (B2.out.later hb)
    replace BK:=Lib.hid (BK.out.later hb)
    replace B12:=Lib.hid (B12.out.later hb)
    replace HW:=Lib.hid (HW.out.trans (hb.mono HW.out.size))
    clear hb
    obtain ⟨lB1,cB1,fB1⟩:=B1.out
    obtain ⟨lB2,cB2,fB2⟩:=B2.out
    obtain ⟨lBK,cBK,fBK⟩:=BK.out
    obtain ⟨lB12,cB12,fB12⟩:=B12.out
    go_wp2
    go_ret
    exact ⟨rfl,HW.out⟩
end Go.Proofs.Ytblgdccoeecodaa
