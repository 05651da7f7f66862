/- What the claim needs,part 38. -/
import Derived.Test.YtgmhnepmkaonaaaGreatPB37
import Derived.Test.YtgmhnepmkaonaaaGreatPB21
import Derived.Test.YtgmhnepmkaonaaaGreatPB32
namespace Go.Proofs.YtgmhnepmkaonaaaGreat
set_option linter.unusedSimpArgs false
set_option linter.unusedVariables false
open Go.RowKit
def InstrVal (W:World) (v:Value) (x:InstrD):Prop := ∃ u,v = .agg #[.int .i64 x.op,.int .i64 x.id,u,.int .i64 x.n]/\Ints W u x.args
theorem InstrVal.below {W W' : World} {v:Value} {x:InstrD} (h:InstrVal W v x) (hb:Below W.heap.size W W'):InstrVal W' v x:=let ⟨u,e,k⟩:=h; ⟨u,e,k.below hb⟩
structure RunOk (ar ce:Int) (s:RunS):Prop where
 al:s.arrays.length=ar.toNat
 cl:s.cells.length=ce.toNat
 len:∀ a ∈ s.arrays,a.length <= 4096
 out:s.out.length <= 4096
 chk:s.checks <= 200000
structure InsOk (ar ce:Int) (x:InstrD):Prop where
 shp:(shp x.op).isSome=true
 args:x.args.length=(shp0 x.op).args.length
 n:nOk ar ce (shp0 x.op).n x.n=true
theorem n_array {ar ce n:Int} (h:nOk ar ce 3 n=true):0 <= n/\n < ar:=by
 unfold nOk topN at h
 simp at h
 omega
theorem n_cell {ar ce n:Int} (h:nOk ar ce 4 n=true):0 <= n/\n < ce:=by
 unfold nOk topN at h
 simp at h
 omega
theorem op_cases {op:Int} (h:(shp op).isSome=true):op=1 \/ op=2 \/ op=18 \/ op=19 \/ op=21 \/ op=20 \/ op=22 \/ op=23 \/ op=24 \/ op=25 \/ (3 <= op/\op <= 17):=by
 refine Classical.byContradiction fun hn => ?_
 unfold shp at h
 rw [if_neg (by omega),if_neg (by omega),if_neg (by omega),if_neg (by omega),if_neg (by omega),if_neg (by omega),if_neg (by omega),if_neg (by omega),if_neg (by omega),if_neg (by omega),if_neg (by omega),if_neg (by omega)] at h
 cases h
theorem shp_few (op:Int):(shp0 op).args.length <= 3:=by
 have key:∀ (c:Prop) [Decidable c] (a b:Option Shp),(a.getD ⟨0,[],0⟩).args.length <= 3 -> (b.getD ⟨0,[],0⟩).args.length <= 3 -> ((if c then a else b).getD ⟨0,[],0⟩).args.length <= 3:=by
  intro c _ a b ha hb
  split
  ·exact ha
  ·exact hb
 unfold shp0 shp
 iterate 12 (refine key _ _ _ (by decide) ?_)
 decide
theorem instr_len {op id n:Int} {args:List Int} {s:RunS} (h:op=18) {nn:Nat} (hn:n=nn) {a:List Int} (ha:s.arrays[nn]? = some a):instrS ⟨op,id,args,n⟩ s = .go a.length s:=by
 subst h;subst hn
 unfold instrS
 simp [List.getD_eq_getElem?_getD,ha]
theorem elem_over {op n i:Int} {s:RunS} {nn:Nat} (hn:n=nn) {a:List Int} (ha:s.arrays[nn]? = some a) (h:i < 0 \/ (a.length:Int) <= i):elemS op n i s = .over (wildO op) (lookS op s):=by
 subst hn
 unfold elemS
 rw [if_pos]
 simpa [List.getD_eq_getElem?_getD,ha] using h
theorem elem_go {op n i:Int} {s:RunS} {nn:Nat} (hn:n=nn) {a:List Int} (ha:s.arrays[nn]? = some a) (h:¬ (i < 0 \/ (a.length:Int) <= i)):elemS op n i s = .go () (lookS op s):=by
 subst hn
 unfold elemS
 rw [if_neg]
 simpa [List.getD_eq_getElem?_getD,ha] using h
theorem look_arrays (op:Int) (s:RunS):(lookS op s).arrays=s.arrays:=by unfold lookS;split <;> rfl
theorem instr_load {op id n:Int} {args:List Int} {s:RunS} (h:op=19 \/ op=21) {nn:Nat} (hn:n=nn) {a:List Int} (ha:s.arrays[nn]? = some a) {y:Int} (hy:(args.map s.vals).getD 0 0=y) :
  ((y < 0 \/ (a.length:Int) <= y) -> instrS ⟨op,id,args,n⟩ s = .over (wildO op) (lookS op s)) /\ ∀ (j:Nat) (x:Int),y=j -> a[j]? = some x -> instrS ⟨op,id,args,n⟩ s = .go x (lookS op s):=by
 have h0:instrS ⟨op,id,args,n⟩ s=(elemS op n y s).bind fun _ s1=>.go ((s1.arrays.getD n.toNat []).getD y.toNat 0) s1:=by
  unfold instrS
  simp only
  rw [if_neg (by omega),if_neg (by omega),if_pos h,hy]
 constructor
 ·intro hw
  rw [h0,elem_over hn ha hw];rfl
 ·intro j x hj hx
  have hjl:=(List.getElem?_eq_some_iff.1 hx).1
  rw [h0,elem_go hn ha (by omega)]
  show Res.go (((lookS op s).arrays.getD n.toNat []).getD y.toNat 0) (lookS op s)=_
  rw [look_arrays]
  subst hn;subst hj
  simp [List.getD_eq_getElem?_getD,ha,hx]
theorem modify_at {α : Type} {l:List α} {i:Nat} {x : α} (g : α -> α) (h:l[i]? = some x):l.modify i g=l.set i (g x):=modify_set g h
theorem instr_store {op id n:Int} {args:List Int} {s:RunS} (h:op=20 \/ op=22) {nn:Nat} (hn:n=nn) {a:List Int} (ha:s.arrays[nn]? = some a) {y z:Int} (hy:(args.map s.vals).getD 0 0=y) (hz:(args.map s.vals).getD 1 0=z) :
  ((y < 0 \/ (a.length:Int) <= y) -> instrS ⟨op,id,args,n⟩ s = .over (wildO op) (lookS op s)) /\ ∀ (j:Nat),y=j -> j < a.length -> instrS ⟨op,id,args,n⟩ s = .go 0 { lookS op s with arrays:=s.arrays.set nn (a.set j z) }:=by
 have h0:instrS ⟨op,id,args,n⟩ s=(elemS op n y s).bind fun _ s1=>.go 0 { s1 with arrays:=s1.arrays.modify n.toNat fun a=>a.set y.toNat z }:=by
  unfold instrS
  simp only
  rw [if_neg (by omega),if_neg (by omega),if_neg (by omega),if_pos h,hy,hz]
 constructor
 ·intro hw
  rw [h0,elem_over hn ha hw];rfl
 ·intro j hj hx
  rw [h0,elem_go hn ha (by omega)]
  show Res.go 0 { lookS op s with arrays:=(lookS op s).arrays.modify n.toNat fun a=>a.set y.toNat z } = _
  rw [look_arrays]
  subst hn;subst hj
  rw [Int.toNat_natCast,Int.toNat_natCast,modify_at _ ha]
theorem instr_out {id n:Int} {args:List Int} {s:RunS} {y:Int} (hy:(args.map s.vals).getD 0 0=y):instrS ⟨23,id,args,n⟩ s=if s.out.length=4096 then .over ⟨4,0,0⟩ s else .go 0 { s with out:=s.out ++ [y] }:=by
 unfold instrS
 simp only
 rw [if_neg (by omega),if_neg (by omega),if_neg (by omega),if_neg (by omega),if_pos trivial,hy]
theorem instr_get {id n:Int} {args:List Int} {s:RunS} {nn:Nat} (hn:n=nn) {z:Int} (hz:s.cells[nn]? = some z):instrS ⟨24,id,args,n⟩ s = .go z s:=by
 subst hn
 unfold instrS
 simp [List.getD_eq_getElem?_getD,hz]
theorem instr_set {id n:Int} {args:List Int} {s:RunS} {nn:Nat} (hn:n=nn) {y:Int} (hy:(args.map s.vals).getD 0 0=y):instrS ⟨25,id,args,n⟩ s = .go 0 { s with cells:=s.cells.set nn y }:=by
 subst hn
 unfold instrS
 simp only
 rw [if_neg (by omega),if_neg (by omega),if_neg (by omega),if_neg (by omega),if_neg (by omega),if_neg (by omega),if_pos trivial,hy]
 simp
theorem instr_calc {op id n:Int} {args:List Int} {s:RunS} (h:3 <= op/\op <= 17):instrS ⟨op,id,args,n⟩ s=if calcE op (args.map s.vals) ≠ 0 then .over ⟨2,0, -1⟩ s else .go (calcV op (args.map s.vals)) s:=by
 unfold instrS
 simp only
 rw [if_neg (by omega),if_neg (by omega),if_neg (by omega),if_neg (by omega),if_neg (by omega),if_neg (by omega),if_neg (by omega)]
end Go.Proofs.YtgmhnepmkaonaaaGreat
namespace Go.Proofs.YtgmhnepmkaonaaaGreat
set_option linter.unusedSimpArgs false
set_option linter.unusedVariables false
open Go.RowKit
theorem Off.frozen {S:Foot} {W W' : World} (h:Off S W W') {b o:Nat} (hl:b < W.heap.size) (hn:¬ S b):W'.frozen? ⟨b,o,none⟩=W.frozen? ⟨b,o,none⟩:=World.frozen?_of_block (w:=W) (a:=⟨b,o,none⟩) (h.block b hl hn)
theorem wpList_iapp {w:World} {ops:Array Oper} {rest:List Oper} {o:Oper} {a:Act} {Q:Exit -> Act -> World -> Prop} (hgd:o.guard=none) (s x:Operand)
  (ho:o.op = .call { callee:=.builtin .append,args:=#[s,x],argTypes:=#[22,22] }) {v:Value} {B:Nat} {y:Int} (hs:a.eval s=v) (hx:a.eval x = .slice (some ⟨B,0,none⟩) 1 1) {S:Foot} {xs:List Int} {n:Nat} (hn:xs.length=n)
  (H:OInts w S v xs) (hB:Box w B #[.int .i64 y]) (hy:In64 y) (hlen:n+1 <= 100000)
  (hK:∀ g cap w',OInts w' (Foot.one g) (.slice (some ⟨g,0,none⟩) (n+1) cap) (xs ++ [y]) -> (S g \/ w.heap.size <= g) -> Off S w w' -> wpList Tryz.prog ops Q rest (a.put o.dst (.slice (some ⟨g,0,none⟩) (n+1) cap)) w'):wpList Tryz.prog ops Q (o :: rest) a w:=by
 refine wpList_oapp (P:=Tryz.prog) hgd s x 22 3 ho elInt hs hx H.1 (row_box (n:=1) (size:=1) (ds:=[.int .i64 y]) hB rfl (by omega)) (by intro u hu;simp at hu;subst hu;rfl) (by omega) (by omega) fun v' w' G' r1 r2 r3 => ?_
 have hO:OInts w' G' v' (xs ++ [y]):=by
  refine ⟨?_,fun z hz => ?_⟩
  ·rw [List.length_append,List.map_append];exact r1
  ·rcases List.mem_append.1 hz with h | h
   ·exact H.2 z h
   ·simp at h;subst h;exact hy
 obtain ⟨g,cap,rfl,hg, -⟩:=hO.1.addr (by simp)
 have hl:(xs ++ [y]).length=n+1:=by simp [hn]
 rw [hl] at hO ⊢
 obtain ⟨k1,k2⟩:=hO.narrow (by omega)
 exact hK g cap w' k1 (r2 g k2) r3
end Go.Proofs.YtgmhnepmkaonaaaGreat
