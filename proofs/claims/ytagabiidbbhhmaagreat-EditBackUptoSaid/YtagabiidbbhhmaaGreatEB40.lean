/- Part 40. -/
import Derived.Shelf.Sort.Plain
import Derived.Shelf.Slices.In.SortNone
import Derived.Maps.RangeWalk
import Derived.RangeFuncNested
import Derived.RangeFuncBound
import Derived.Test.YtagabiidbbhhmaaGreatEB37
namespace Go.Proofs.YtagabiidbbhhmaaGreat
set_option maxHeartbeats 6400000
set_option linter.all false
open Go.RowKit Go.Shelf
def rS:Go.Shelf.Ren:=⟨fun | 189=>59 | 125=>102 | 257=>101 | 128=>160 | 129=>161 | 294=>151 | 295=>152 | 296=>153 | 297=>154 | 298=>155 | 299=>156 | 216=>157 | 300=>158 | 301=>159 | 328=>188 | 329=>189 | 330=>190 | 331=>191 | 332=>192 | 215=>193 | 343=>210 | n=>n,
 fun | 28=>22 | 3=>3 | 46=>167 | 0=>0 | 51=>223 | 53=>182 | 4=>4 | 183=>217 | 182=>216 | 131=>91 | 5=>5 | 9=>9 | 218=>243 | 222=>241 | 228=>258 | 229=>259 | n=>n,
 fun | n=>n⟩
theorem nS:Go.Proofs.Lays.n189 Tryz.prog rS := {
 mixed:=by kernel_rfl
 f125:=Tryz.func102.trans (congrArg some (by kernel_rfl))
 f128:=Tryz.func160.trans (congrArg some (by kernel_rfl))
 f129:=Tryz.func161.trans (congrArg some (by kernel_rfl))
 f189:=Tryz.func59.trans (congrArg some (by kernel_rfl))
 f215:=Tryz.func193.trans (congrArg some (by kernel_rfl))
 f216:=Tryz.func157.trans (congrArg some (by kernel_rfl))
 f257:=Tryz.func101.trans (congrArg some (by kernel_rfl))
 f294:=Tryz.func151.trans (congrArg some (by kernel_rfl))
 f295:=Tryz.func152.trans (congrArg some (by kernel_rfl))
 f296:=Tryz.func153.trans (congrArg some (by kernel_rfl))
 f297:=Tryz.func154.trans (congrArg some (by kernel_rfl))
 f298:=Tryz.func155.trans (congrArg some (by kernel_rfl))
 f299:=Tryz.func156.trans (congrArg some (by kernel_rfl))
 f300:=Tryz.func158.trans (congrArg some (by kernel_rfl))
 f301:=Tryz.func159.trans (congrArg some (by kernel_rfl))
 f328:=Tryz.func188.trans (congrArg some (by kernel_rfl))
 f329:=Tryz.func189.trans (congrArg some (by kernel_rfl))
 f330:=Tryz.func190.trans (congrArg some (by kernel_rfl))
 f331:=Tryz.func191.trans (congrArg some (by kernel_rfl))
 f332:=Tryz.func192.trans (congrArg some (by kernel_rfl))
 f343:=Tryz.func210.trans (congrArg some (by kernel_rfl))
 t0:=Tryz.underlying0
 a0:=Tryz.isAgg0
 z0:=Tryz.sizeOf0
 v0:=Tryz.zeroValue0
 t3:=Tryz.underlying3
 a3:=Tryz.isAgg3
 z3:=Tryz.sizeOf3
 v3:=Tryz.zeroValue3
 t4:=Tryz.underlying4
 a4:=Tryz.isAgg4
 z4:=Tryz.sizeOf4
 v4:=Tryz.zeroValue4
 t5:=Tryz.underlying5
 a5:=Tryz.isAgg5
 z5:=Tryz.sizeOf5
 v5:=Tryz.zeroValue5
 t9:=Tryz.underlying9
 a9:=Tryz.isAgg9
 z9:=Tryz.sizeOf9
 v9:=Tryz.zeroValue9
 t28:=Tryz.underlying22
 a28:=Tryz.isAgg22
 z28:=Tryz.sizeOf22
 v28:=Tryz.zeroValue22
 t46:=Tryz.underlying167
 a46:=Tryz.isAgg167
 z46:=Tryz.sizeOf167
 v46:=Tryz.zeroValue167
 t51:=Tryz.underlying223
 a51:=Tryz.isAgg223
 z51:=Tryz.sizeOf223
 v51:=Tryz.zeroValue223
 t53:=Tryz.underlying182
 a53:=Tryz.isAgg182
 z53:=Tryz.sizeOf182
 v53:=Tryz.zeroValue182
 t131:=Tryz.underlying91
 a131:=Tryz.isAgg91
 z131:=Tryz.sizeOf91
 v131:=Tryz.zeroValue91
 t182:=Tryz.underlying216
 a182:=Tryz.isAgg216
 z182:=Tryz.sizeOf216
 v182:=Tryz.zeroValue216
 t183:=Tryz.underlying217
 a183:=Tryz.isAgg217
 z183:=Tryz.sizeOf217
 v183:=Tryz.zeroValue217
 t218:=Tryz.underlying243
 a218:=Tryz.isAgg243
 z218:=Tryz.sizeOf243
 v218:=Tryz.zeroValue243
 t222:=Tryz.underlying241
 a222:=Tryz.isAgg241
 z222:=Tryz.sizeOf241
 v222:=Tryz.zeroValue241
 t228:=Tryz.underlying258
 a228:=Tryz.isAgg258
 z228:=Tryz.sizeOf258
 v228:=Tryz.zeroValue258
 t229:=Tryz.underlying259
 a229:=Tryz.isAgg259
 z229:=Tryz.sizeOf259
 v229:=Tryz.zeroValue259 }
section
variable {P:Program} {w:World} {ops:Array Oper} {rest:List Oper} {o:Oper} {a:Act} {Q:Exit -> Act -> World -> Prop}
end
def jH (xs:List Int):List Int:=xs.mergeSort fun x y=>decide (x <= y)
theorem gV (xs:List Int):(jH xs).Perm xs:=List.mergeSort_perm _ _
theorem wQ {xs:List Int} (h:xs.Nodup):Rise (jH xs):=by
 have h1:(jH xs).Pairwise (fun a b=>decide (a <= b)=true):=List.pairwise_mergeSort (fun a b c h1 h2=>by simp at *;omega) (fun a b=>by simp;omega) xs
 have h2:(jH xs).Nodup:=(gV xs).nodup_iff.2 h
 unfold Rise
 rw [dJ] at h2
 exact (h1.and h2).imp fun ⟨a,b⟩=>by simp at a;omega
theorem uE:∀ {xs ys:List Int},Rise xs -> Rise ys -> (∀ x,x ∈ xs ↔ x ∈ ys) -> xs=ys
 | [],[],_,_,_=>rfl
 | [],y :: ys,_,_,h=>by have:=(h y).2 (by simp);cases this
 | x :: xs,[],_,_,h=>by have:=(h x).1 (by simp);cases this
 | x :: xs,y :: ys,hx,hy,h=>by
  unfold Rise at hx hy
  rw [List.pairwise_cons] at hx hy
  have e:x=y:=by
   have h1:=(h x).1 (by simp)
   have h2:=(h y).2 (by simp)
   rcases bP.1 h1 with h1 | h1
   ·exact h1
   rcases bP.1 h2 with h2 | h2
   ·exact h2.symm
   have:=hy.1 x h1;have:=hx.1 y h2;omega
  subst e
  congr 1
  refine uE hx.2 hy.2 fun z=>⟨fun hz => ?_,fun hz => ?_⟩
  ·have h1:=hx.1 z hz
   rcases bP.1 ((h z).1 (by simp [hz])) with h2 | h2
   ·omega
   exact h2
  have h1:=hy.1 z hz
  rcases bP.1 ((h z).2 (by simp [hz])) with h2 | h2
  ·omega
  exact h2
theorem aEE {w:World} {base:Nat} {u:Value} {xs:List Int} (h:w.ownsRow base 3 1 u xs.length (xs.map (.int .i64))) (hn:xs.length <= 17592186044416) (hb:base <= w.heap.size) :
  Calls Tryz.prog 59 #[u] w fun e w'=>e = .returned (.tuple #[])/\w'.ownsRow base 3 1 u xs.length ((jH xs).map (.int .i64))/\Below base w w':=by
 rcases h.2 with ⟨rfl,h0⟩ | ⟨g,cap,cur,rfl,hbg,hh,h1,h2,h3,h4⟩
 ·refine (Any.slices_Sort_int_none nS none 0 w).mono ?_
  rintro e w' ⟨rfl,rfl⟩
  refine ⟨rfl,⟨by rw [bE,(gV xs).length_eq];simp,.inl ⟨rfl,h0⟩⟩,Below.refl _ _⟩
 ·refine (Any.slices_Sort_int nS g 0 cap xs w (Go.holds_of_blockI hh (by rw [eJ] at h4;exact h4)) (aL.1 hh).1 (by omega)).mono ?_
  rintro e w' ⟨rfl,nd,os,rfl⟩
  refine ⟨rfl,Go.ownsRow_sortedI (List.mergeSort_perm _ _).length_eq hbg hh h1 h2 h3, ?_⟩
  exact (Below.refl _ _).grown (Go.grownBy_sortedI _) hb fun k hk=>by cases hk;exact hbg
open Go.RowKit
attribute [local go_sem] Oper.semAt_some
def upto (xs:List Int) (k:Nat):List Int:=(List.range k).map fun j=>xs[j]?.getD 0
theorem aAE (xs:List Int) (k:Nat):upto xs (k+1)=upto xs k ++ [xs[k]?.getD 0]:=by simp [upto,List.range_succ]
theorem tB (xs:List Int) (k:Nat):(upto xs k).length=k:=by simp [upto]
theorem aB8 (xs:List Int):upto xs xs.length=xs:=by
 apply List.ext_getElem
 ·simp [upto]
 intro i h1 h2
 simp [upto,h2]
set_option maxRecDepth 100000 in
theorem wR (n:Nat) (hn:1 <= n) (l Bs n0 c b off len:Nat) (a:Option Addr) (xs:List Int) (HL:Hid (xs.length=len)) (hle:len <= 17592186044416) (ha:0 < len -> a=some ⟨b,off,none⟩/\b < n0) (J Jx:List Int -> World -> Prop)
  (hY:∀ pre x W,J pre W -> pre.length < len -> YieldAt Fence.wide (n - 1) Tryz.prog l #[.int .i64 x] W fun e W' =>
   (e = .returned (.bool true)/\J (pre ++ [x]) W' /\ Below n0 W W') \/ (e = .returned (.bool false)/\Jx (pre ++ [x]) W'))
  (W:World) (hBs:W.cell? ⟨Bs,0,none⟩=some (.slice a len c)) (hc:∀ j,j < len -> W.cell? ⟨b,off+j,none⟩=some (.int .i64 (xs[j]?.getD 0))) (h0:J [] W) :
  CallsIn Fence.wide n Tryz.prog 185 #[.func (.yield l) #[] #[],.pointer (some ⟨Bs,0,none⟩)] W fun e W'=>(∃ v,e = .returned v) /\
   ((∃ ys,ys=xs/\J ys W') \/ (∃ pre,True/\Jx pre W')):=by
 refine callsIn_of_wp Tryz.func185 rfl trivial ?_ rfl
 simp only [Tryz.ntmps185,List.size_toArray,aZ,cH,Nat.reduceAdd,Nat.reduceSub,Array.replicate_succ,Array.replicate_zero,List.push_toArray,List.append_toArray,eF,List.cons_append]
 gi_wp2
 gi_loopw [7] (fun i wr => ∃ k:Nat,k <= len/\i = .int .i64 k/\J (upto xs k) wr/\Below n0 W wr)
  (fun i _=>len - (intOf i).toNat)
 case atStart=>exact ⟨0,aJ _,rfl,h0,Below.refl _ _⟩
 case round =>
  obtain ⟨k,hk,rfl,hJs,hnx⟩:=hrel
  by_cases hlt:k < len
  ·have hab:=ha (by omega)
   clear ha
   obtain ⟨rfl,hb⟩:=hab
   have hcx' : wr.cell? ⟨b,off+k,none⟩=some (.int .i64 (xs[k]?.getD 0)):=(hnx.cell (p:=⟨b,off+k,none⟩) hb).trans (hc k hlt)
   obtain ⟨fn,tmps,assign,body,hy,hR⟩:=hY _ (xs[k]?.getD 0) wr hJs (by rw [tB];exact hlt)
   gi_wp2
   refine hR.mono ?_
   rintro e W3 (⟨rfl,hJ3,hk3⟩ | ⟨rfl,hJx3⟩)
   ·gi_wp2
    go_roundw
    case rel=>exact ⟨k+1,by omega,by go_num,by rw [aAE];exact hJ3,hnx.trans hk3⟩
    simp [intOf];omega
   gi_wp2
   refine bodyPost_ret (results_none rfl _ _ _) rfl ?_
   exact ⟨⟨_,rfl⟩,.inr ⟨_,trivial,hJx3⟩⟩
  have hkl:k=len:=by omega
  have hall:upto xs k=xs:=by rw [hkl, <-HL.out];exact aB8 xs
  rw [hall] at hJs
  clear hall
  gi_wp2
  go_end0
  exact ⟨⟨_,rfl⟩,.inl ⟨_,rfl,hJs⟩⟩
theorem aEF {w:World} {v:Value} {xs:List Int} (hs:Ints w v xs) :
  Calls Tryz.prog 142 #[v] w fun e w' => ∃ B,e = .returned (.func (.func 185) #[] #[.pointer (some ⟨B,0,none⟩)])/\w.heap.size <= B/\Box w' B #[v]/\Below w.heap.size w w':=by
 obtain ⟨a,c,b,o,rfl, -⟩:=hs.parts
 obtain ⟨len,hlen⟩ : ∃ len,len=xs.length:=⟨_,rfl⟩
 rw [<-hlen]
 clear hs hlen
 go_enter Tryz.func142,Tryz.ntmps142
 go_wp2
 go_ret
 exact ⟨_,rfl,aA _,Box.new _ _ _,(Below.refl _ _).alloc (aA _) _⟩
theorem rT (n:Nat) (hn:1 <= n) (Bs n0:Nat) {v:Value} {xs:List Int} (w:World) (hs:Ints w v xs) (hBs:Bs < w.heap.size) (hn0:n0=w.heap.size)
  (hc:w.cell? ⟨Bs,0,none⟩=some v) :
  SeqStopsK Fence.wide n Tryz.prog 185 #[.pointer (some ⟨Bs,0,none⟩)] (fun x:Int=>#[Value.int .i64 x]) (Below n0) (fun ys=>ys=xs) (fun _=>True) xs.length w:=fun l J Jx W hW _ _ hY h0=>by
 obtain ⟨a,c,b,o,rfl, -, -,ha,hx⟩:=hs.parts
 refine wR n hn l Bs n0 c b o xs.length a xs (h! rfl) hs.1.big (fun hp => ?_) J Jx hY W ((hW.cell (p:=⟨Bs,0,none⟩) hBs).trans hc) (fun j hj => ?_) h0
 ·obtain ⟨h1,h2⟩:=ha (by first | exact hp | simpa using hp)
  exact ⟨h1,by omega⟩
 ·obtain ⟨h1,h2⟩:=ha (by omega)
  rw [hW.cell (p:=⟨b,o+j,none⟩) (by simp only;omega)]
  have:=hx j (by first | exact hj | simpa using hj)
  rw [aO] at this
  exact this
theorem aB9:(Tryz.prog.info? 3).map (fun i=>(i.zero,i.size,i.bytes))=some (some (.int .i64 0),1,8):=by kernel_rfl
set_option maxRecDepth 100000 in
theorem wS {w:World} {v:Value} {xs:List Int} {Bv:Nat} (hs:Ints w v xs) (hBv:Box w Bv #[v]) :
  Calls Tryz.prog 209 #[.slice none 0 0,.func (.func 185) #[] #[.pointer (some ⟨Bv,0,none⟩)]] w fun e w' => ∃ u,e = .returned u/\New 3 w w' u xs/\Below w.heap.size w w':=by
 obtain ⟨i0,hi,hz0,hz1,hz2⟩:=info_parts aB9
 have hle:xs.length <= 17592186044416:=hs.1.big
 have h64:=hs.2
 refine (callsIn_wide (n:=6)).1 ?_
 refine callsIn_of_wp_marks Tryz.func209 rfl trivial ?_ rfl
 simp only [Tryz.ntmps209,List.size_toArray,aZ,cH,Nat.reduceAdd,Nat.reduceSub,Array.replicate_succ,Array.replicate_zero,List.push_toArray,List.append_toArray,eF,List.cons_append]
 gi_wp2
 have bO:=Boxed.new w 22 (.slice none 0 0)
 have hB0:Below w.heap.size w (w.alloc (.cells #[.slice none 0 0] 22)):=(Below.refl _ w).alloc (aA _) _
 have hs1:Ints (w.alloc (.cells #[.slice none 0 0] 22)) v xs:=hs.below hB0
 refine wpIn_rangeFunc_ownG rfl (by omega) (gf:=185) (lb:=#[.pointer (some ⟨Bv,0,none⟩)]) rfl trivial (enters_of Tryz.func185 (by kernel_rfl) rfl)
  (rT (6 - 1) (by omega) Bv w.heap.size w hs hBv.lt rfl (by have:=hBv.cell 0;simpa using this)) belowK_t (belowK_b (by simp)) hB0 (fun _=>rfl)
  (fun pre W=>(∃ u,Boxed W w.heap.size 22 u/\W.ownsRow w.heap.size 3 1 u pre.length (pre.map (Value.int .i64))/\True)/\Below w.heap.size w W)
  (fun _ _ _=>False)
  (OwnFrom.and (_root_.Go.Own.from (holdsRow_own w.heap.size w.heap.size 22 3 1 (fun pre:List Int=>pre.length) (fun pre:List Int=>pre.map (Value.int .i64)) (fun _ _=>True)) _) (ownFrom_below (aA _) (by simp)))
  (fun _ _ _ _ _ hs _ _=>hs)
  ⟨⟨_,bO,World.ownsRow_nil _ _ _ _,trivial⟩,hB0⟩
  (fun x => { tmps:=#[.slice none 0 0,.func (.func 185) #[] #[.pointer (some ⟨Bv,0,none⟩)],.pointer (some ⟨w.heap.size,0,none⟩),undef,.slice none 0 0,.int .i64 x,.func (.func 185) #[] #[.pointer (some ⟨Bv,0,none⟩)],.int .i64 x,undef,undef,undef,undef,undef],defers:=[] }) ?assign ?body ?done ?stop
 case assign =>
  intro l x W K hK
  gi_wp2
  exact hK
 case body =>
  rintro l pre x W ⟨⟨u,hv,hrow, -⟩,hB⟩ hlt
  have hc:=hv.cell
  have hf:=hv.frozen
  gi_wp2_with (gi_at_builtin;refine wpListIn_append_own _ rfl _ _ 22 rfl w.heap.size 3 i0 (.int .i64 0) 1 8 Tryz.underlying22 hi hz0 hz1 hz2 rfl (by decide) _ _ _ rfl (hrow.alloc _) ⟨W.heap.size,0,none⟩ 1 1 [.int .i64 x] rfl rfl (cell_one_new _ _ _) (by simp [Value.oneCell']) (by unfold maxLen;omega) (by omega) (by have:=hB.size;simp;omega) ?_;intro v' w1 hown' hgrow _;obtain ⟨g',cap',rfl⟩:=ownsRow_succ hown';obtain ⟨hv1,hv2,hr2,hk2,hb2⟩:=hv.appended (by decide) hrow hB.size (aA _) hown' hgrow;have hc1:=hv1.cell;have hf1:=hv1.frozen)
  exact ⟨hk2.from _,hb2,⟨_,hv2,by simpa using hr2,trivial⟩,hB.trans hb2⟩
 case done =>
  rintro D ys W hD rfl ⟨⟨u,hv,hrow, -⟩,hB⟩ hK
  have hc:=hv.cell
  gi_wp2
  refine ⟨by simp,.inl ⟨_,_,rfl,run_takeDeferred hK, ?_⟩⟩
  exact ⟨_,results_tmp rfl _ _ _,u,rfl,⟨ownsRow_putObj hrow _ hK rfl,hle,h64⟩,hB.trans (belowK_b (w:=w) (aA _) W D _ _ (by simp at hD;omega) hK rfl rfl)⟩
 case stop =>
  rintro D c pre W _ _ h _
  exact h.elim
theorem aCA {w:World} {v:Value} {xs:List Int} {Bv:Nat} (hs:Ints w v xs) (hBv:Box w Bv #[v]) :
  Calls Tryz.prog 184 #[.func (.func 185) #[] #[.pointer (some ⟨Bv,0,none⟩)]] w fun e w' => ∃ u,e = .returned u/\New 3 w w' u xs/\Below w.heap.size w w':=by
 have HS:=h! hs
 have HB:=h! hBv
 clear hs hBv
 go_enter Tryz.func184,Tryz.ntmps184
 go_wp2_with fail
 refine (wS HS.out HB.out).mono ?_
 rintro e w' ⟨u,rfl,hN,hb⟩
 have HN:=h! hN
 have HW:=h! hb
 clear hN hb
 go_wp2
 go_ret
 exact ⟨u,rfl,HN.out,HW.out⟩
theorem aEG {w:World} {v:Value} {xs:List Int} {Bv:Nat} (hs:Ints w v xs) (hBv:Box w Bv #[v]) :
  Calls Tryz.prog 141 #[.func (.func 185) #[] #[.pointer (some ⟨Bv,0,none⟩)]] w fun e w' => ∃ u,e = .returned u/\New 3 w w' u (jH xs)/\Below w.heap.size w w':=by
 have HS:=h! hs
 have HB:=h! hBv
 clear hs hBv
 go_enter Tryz.func141,Tryz.ntmps141
 go_wp2_with fail
 refine (aCA HS.out HB.out).mono ?_
 rintro e w1 ⟨u,rfl,hN,hb⟩
 have HN:=h! hN
 have HW:=h! hb
 clear hN hb
 go_wp2_with fail
 refine (aEE HN.out.own HN.out.le HW.out.size).mono ?_
 rintro e w2 ⟨rfl,hO,hb2⟩
 have HO:=h! hO
 have HW2:=h! hb2
 clear hO hb2
 go_wp2
 go_ret
 have hl:(jH xs).length=xs.length:=(gV xs).length_eq
 exact ⟨u,rfl,⟨by rw [hl];exact HO.out,by rw [hl];exact HN.out.le,fun x hx=>HN.out.all x ((gV xs).mem_iff.1 hx)⟩,HW.out.trans HW2.out⟩
theorem tC:Enters Tryz.prog 140:=enters_of Tryz.func140 (by kernel_rfl) rfl
set_option maxRecDepth 100000 in
theorem aF7 {f:FuncD} {w:World} {bs bt bg lg lcap bm:Nat} {g:Array Value} {pv ov lv A2:Value} {O:List Nat} {I:Nat -> Option Nat} (hS:StrM f w bs bt bg lg lcap bm g pv ov lv A2 O I)
  {c:Nat} (hc:c < f.blocks.length) {b1 b2:Nat} {p:PhiD} {v:Value} (hv:PhiV w v p) (h1:Box w b1 #[.pointer (some ⟨bs,0,none⟩)]) (h2:Box w b2 #[.int .i64 c]) :
  Calls Tryz.prog 140 #[v,.pointer (some ⟨b1,0,none⟩),.pointer (some ⟨b2,0,none⟩)] w fun e w'=>e = .returned (.bool (!decide (jH p.src=natI (fV f f.blocks.length 0 c))))/\Below w.heap.size w w':=by
 obtain ⟨s,u,rfl,hs,hu⟩:=hv
 obtain ⟨n,hn⟩ : ∃ n,n=natI (fV f f.blocks.length 0 c):=⟨_,rfl⟩
 have HN:=h! hn
 rw [<-hn]
 have HSR:=h! hs
 obtain ⟨t0, -,t4, -, -⟩:=hS.t.cells
 obtain ⟨vs,pa,pc,pb,po,hpe,hpc,hpm,hpl2,hpa,hpx,hpy⟩:=hS.t.preds.parts
 have hpln:(gQ f).length=f.blocks.length:=by unfold gQ;rw [iD]
 obtain ⟨nb,hnb⟩ : ∃ nb,nb=f.blocks.length:=⟨_,rfl⟩
 rw [hpln, <-hnb] at hpe hpc hpa hpl2 hpx hpy
 rw [<-hnb] at hc
 obtain ⟨rfl,hpb⟩:=hpa (by omega)
 subst hpe
 have hq1:=hpx c hc
 have hq2:=hpy c hc
 obtain ⟨q,hq⟩ : ∃ q,q=vs.getD c undef:=⟨_,rfl⟩
 rw [<-hq] at hq1 hq2
 have hq3:Ints w q n:=by
  have:(gQ f).getD c []=n:=by
   rw [hn,aO]
   unfold gQ
   rw [jT (by rw [<-hnb];exact hc)]
   rfl
  rw [<-this];exact hq2
 have HQ1:=h! hq1
 have HQ3:=h! hq3
 have HT0:=h! t0
 have HT4:=h! t4
 have HS:=h! hS
 obtain ⟨l1,c1,f1⟩:=h1
 obtain ⟨l2,c2,f2⟩:=h2
 have H1:=h! c1
 have H2:=h! c2
 clear hS hs hu hn t0 t4 hpl2 hpa hpx hpy hq hq1 hq2 hq3 hnb hpln f1 f2 c1 c2
 go_enter Tryz.func140,Tryz.ntmps140
 go_upto_region 1 with (fail)
 have hA_:=(Below.refl w.heap.size w).alloc (aA _) (.cells #[.int .i64 p.id,.int .i64 p.typ,s,u] 78)
 have HW:=h! hA_
 clear hA_
 have B1:=h! (Box.new w #[.int .i64 p.id,.int .i64 p.typ,s,u] 78)
 generalize w.alloc (.cells #[.int .i64 p.id,.int .i64 p.typ,s,u] 78)=wv at *
 obtain ⟨lB1,cB1,fB1⟩:=B1.out
 refine wp_region_grow 20 (fun kz=>match kz with | 2=>.holds (fun u w' => ∃ B,u = .func (.func 185) #[] #[.pointer (some ⟨B,0,none⟩)]/\Box w' B #[s]) | 3=>.holds (fun u w'=>Ints w' u (jH p.src)) | 17=>.const (.bool (decide (jH p.src=n))) | _=>.plain) (by kernel_rfl) (by kernel_rfl) ?_ (fun ν => ?_)
 ·(intro k;(try dsimp only);split <;> first | exact True.intro | (intro u w1 w2 hu hb;first | exact hu.below hb | (obtain ⟨B,h1,h2⟩:=hu;exact ⟨B,h1,h2.later hb⟩)))
 simp only [aQ,aU,aT,aY]
 iterate 2 (refine Grow.val (v := ?_) rfl rfl (fun wg hbg hdg => ?_) ?_;rotate_left;(focus ((obtain ⟨lg0,cg0,fg0⟩:=B1.out.later hbg);(have hW3:=HW.out.trans (hbg.mono HW.out.size);obtain ⟨xl1,xc1,xf1⟩:=(HS.out.later hW3).s;have xt:=(hW3.cell (World.block_lt_of_cell? w _ HT0.out)).trans HT0.out;have xg:=(hW3.cell (World.block_lt_of_cell? w _ HT4.out)).trans HT4.out;have xq:=(hW3.cell (p:=⟨pb,po+c,none⟩) hpb).trans HQ1.out;have x1:=(hW3.cell (p:=⟨b1,0,none⟩) l1).trans (H1.out 0);have x2:=(hW3.cell (p:=⟨b2,0,none⟩) l2).trans (H2.out 0);simp only [List.getElem?_toArray,List.getElem?_cons_zero] at x1 x2);clear hbg hdg;first | (go_simp;done) | (go_simp;with_reducible rfl)));simp only [Act.put,aB,aE,aF])
 refine Grow.call (f := ?_) (args := ?_) rfl (fun wg => ?_) (fun wg hbg hdg => ?_) ?_
 rotate_left 2
 focus (first | (go_simp;done) | (go_simp;refine And.intro ?_ ?_ <;> with_reducible rfl) | (go_simp;with_reducible rfl))
 focus exact ((aEF (HSR.out.below (HW.out.trans (hbg.mono HW.out.size)))).mono (fun e w2 ⟨B,he,_,hB,hw⟩=>⟨_,he,⟨B,rfl,hB⟩,hw⟩))
 simp only [Act.put,Known.val,aB,aE,aF]
 refine Grow.call (f := ?_) (args := ?_) rfl (fun wg => ?_) (fun wg hbg hdg => ?_) ?_
 rotate_left 2
 focus (first | (go_simp;done) | (go_simp;refine And.intro ?_ ?_ <;> with_reducible rfl) | (go_simp;with_reducible rfl))
 focus (have h9:=hdg 2 (by kernel_rfl);obtain ⟨B,hB1,hB2⟩:=h9;rw [hB1];exact (aEG (HSR.out.below (HW.out.trans (hbg.mono HW.out.size))) hB2).mono (fun e w2 ⟨u,he,hN,hw⟩=>⟨_,he,hN.ints,hw⟩))
 simp only [Act.put,Known.val,aB,aE,aF]
 iterate 13 (refine Grow.val (v := ?_) rfl rfl (fun wg hbg hdg => ?_) ?_;rotate_left;(focus ((obtain ⟨lg0,cg0,fg0⟩:=B1.out.later hbg);(have hW3:=HW.out.trans (hbg.mono HW.out.size);obtain ⟨xl1,xc1,xf1⟩:=(HS.out.later hW3).s;have xt:=(hW3.cell (World.block_lt_of_cell? w _ HT0.out)).trans HT0.out;have xg:=(hW3.cell (World.block_lt_of_cell? w _ HT4.out)).trans HT4.out;have xq:=(hW3.cell (p:=⟨pb,po+c,none⟩) hpb).trans HQ1.out;have x1:=(hW3.cell (p:=⟨b1,0,none⟩) l1).trans (H1.out 0);have x2:=(hW3.cell (p:=⟨b2,0,none⟩) l2).trans (H2.out 0);simp only [List.getElem?_toArray,List.getElem?_cons_zero] at x1 x2);clear hbg hdg;first | (go_simp;done) | (go_simp;with_reducible rfl)));simp only [Act.put,aB,aE,aF])
 refine Grow.call (f := ?_) (args := ?_) rfl (fun wg => ?_) (fun wg hbg hdg => ?_) ?_
 rotate_left 2
 focus (first | (go_simp;done) | (go_simp;refine And.intro ?_ ?_ <;> with_reducible rfl) | (go_simp;with_reducible rfl))
 focus (have h9:=hdg 3 (by kernel_rfl);exact (pM h9 (HQ3.out.below (HW.out.trans (hbg.mono HW.out.size)))).mono (fun e w2 ⟨he,hw⟩=>⟨_,he,rfl,hw⟩))
 simp only [Act.put,Known.val,aB,aE,aF]
 iterate 2 (refine Grow.val (v := ?_) rfl rfl (fun wg hbg hdg => ?_) ?_;rotate_left;(focus ((obtain ⟨lg0,cg0,fg0⟩:=B1.out.later hbg);(have hW3:=HW.out.trans (hbg.mono HW.out.size);obtain ⟨xl1,xc1,xf1⟩:=(HS.out.later hW3).s;have xt:=(hW3.cell (World.block_lt_of_cell? w _ HT0.out)).trans HT0.out;have xg:=(hW3.cell (World.block_lt_of_cell? w _ HT4.out)).trans HT4.out;have xq:=(hW3.cell (p:=⟨pb,po+c,none⟩) hpb).trans HQ1.out;have x1:=(hW3.cell (p:=⟨b1,0,none⟩) l1).trans (H1.out 0);have x2:=(hW3.cell (p:=⟨b2,0,none⟩) l2).trans (H2.out 0);simp only [List.getElem?_toArray,List.getElem?_cons_zero] at x1 x2);clear hbg hdg;first | (go_simp;done) | (go_simp;with_reducible rfl)));simp only [Act.put,aB,aE,aF])
 intro wg hb hf hap
 clear hap
 clear lB1 cB1 fB1
 replace B1:=h! (B1.out.later hb)
 replace HW:=h! (HW.out.trans (hb.mono HW.out.size))
 clear hb
 obtain ⟨lB1,cB1,fB1⟩:=B1.out
 clear hf
 go_wp2
 go_ret
 exact ⟨rfl,HW.out⟩
def wT (f:FuncD) (c:Nat) (x:BlockD) (w:World) (e:Ending) (w' : World):Prop:=e = .returned (.bool (x.phis.all (fR (natI (fV f f.blocks.length 0 c)))))/\Below w.heap.size w w'
theorem wU (f:FuncD) (n c:Nat):Rise (natI (fV f n 0 c)):=by
 rw [iE]
 unfold natI Rise
 rw [List.pairwise_map]
 refine List.Pairwise.imp ?_ (List.Pairwise.filter _ List.pairwise_lt_range)
 intro a b h
 omega
theorem wV {xs:List Int} (h:Rise xs):xs.Nodup:=by
 unfold Rise at h
 unfold List.Nodup
 refine h.imp ?_
 intro a b h e
 omega
theorem uF:∀ (S K:List Int),S.Nodup -> (∀ x ∈ S,x ∈ K) -> S.length <= K.length
 | [],K,_,_=>aJ _
 | x :: S,K,h,hk=>by
  rw [eD] at h
  have h1:=uF S (K.erase x) h.2 (fun y hy=>by
   have hne:y ≠ x:=fun e=>h.1 (e ▸ hy)
   exact (List.mem_erase_of_ne hne).2 (hk y (bX _ hy)))
  have h2:=hk x dL
  rw [List.length_erase_of_mem h2] at h1
  have:=List.length_pos_of_mem h2
  rw [aZ];omega
theorem aCB {f:FuncD} (h:gS f=true) {c:Nat} {x:BlockD} (hx:f.blocks[c]? = some x):(c=0 -> x.phis=[])/\(∀ p ∈ x.phis,iL f.blocks.length p=true)/\(∀ y ∈ x.code,fW f.arrays f.cells y=true)/\iM f.blocks.length x.term=true:=by
 unfold gS at h
 simp only [aK,bB] at h
 have hok:=h.2 (x,c) (by rw [bT];exact hx)
 unfold fX at hok
 simp only [aK,bB] at hok
 refine ⟨fun h0 => ?_,hok.1.1.2,hok.1.2,hok.2⟩
 have h1:=hok.1.1.1
 simp [h0] at h1
 exact h1
theorem aAF {nb:Nat} {p:PhiD} (h:iL nb p=true):p.src.Nodup:=by
 unfold iL at h
 simp only [aK,decide_eq_true_eq] at h
 exact h.2
theorem tD {p:PhiD} {xs:List Int} (hs:p.src.Nodup) (hx:Rise xs):fR xs p=decide (jH p.src=xs):=by
 rw [bU,decide_eq_true_iff]
 unfold fR
 rw [aK,decide_eq_true_iff,bB]
 constructor
 ·rintro ⟨hl,hm⟩
  refine uE (wQ hs) hx fun x => ?_
  rw [(gV p.src).mem_iff]
  have hsub:∀ y ∈ xs,y ∈ p.src:=fun y hy=>by have:=hm y hy;simpa using this
  refine ⟨fun h => ?_,hsub x⟩
  refine Classical.byContradiction fun hno => ?_
  have h1:=uF (x :: xs) p.src (eD.2 ⟨hno,wV hx⟩) (fun y hy=>by
   rcases bP.1 hy with rfl | hy
   ·exact h
   exact hsub y hy)
  rw [aZ] at h1
  omega
 rintro rfl
 refine ⟨(gV p.src).length_eq.symm,fun y hy => ?_⟩
 simpa using (gV p.src).mem_iff.1 hy
set_option maxRecDepth 100000 in
theorem aF8 {f:FuncD} {w:World} {bs bt bg lg lcap bm:Nat} {ap ab:Option Addr} {np cp cb:Nat} {ar ce:Int} {pv ov lv A2:Value} {O:List Nat} {I:Nat -> Option Nat}
  (hS:StrM f w bs bt bg lg lcap bm #[.slice ap np cp,.int .i64 ar,.int .i64 ce,.slice ab f.blocks.length cb] pv ov lv A2 O I) (hB:eT gD 6 w (.slice ab f.blocks.length cb) f.blocks) (hc:eS f=0)
  {c:Nat} {x:BlockD} (hx:f.blocks[c]? = some x) :
  Calls Tryz.prog 88 #[.pointer (some ⟨bs,0,none⟩),.int .i64 c] w (wT f c x w):=by
 have HS:=h! hS
 have HX:=h! hx
 have hcl:=(aD.1 hx).1
 obtain ⟨a2,c2,bb,bo,hbe,hbc,hbm,hbl,hba,hbx⟩:=eU hB
 cases hbe
 obtain ⟨rfl,hbw⟩:=hba (by omega)
 obtain ⟨api,aii,ati,cpi,cii,cti,hC⟩:=hbx c x hx
 have HC:=h! hC
 have HPH:=h! hC.phis
 have HCL:=h! hcl
 have HT0:=h! hS.t.cells.1
 have HG3:Hid (w.cell? ⟨bg,3,none⟩=some (.slice (some ⟨bb,bo,none⟩) f.blocks.length cb)):=h! (hS.t.graph.at 3 rfl)
 have HTL:=h! hS.t.tree.lt
 have HGL:=h! hS.t.graph.lt
 obtain ⟨n,hn⟩ : ∃ n,n=natI (fV f f.blocks.length 0 c):=⟨_,rfl⟩
 have HN:=h! hn
 have HALL:Hid ((!x.phis.any fun p => !decide (jH p.src=n))=x.phis.all (fR n)):=h! (by
  have hk:=(aCB (fA hc).1 hx).2.1
  have hr:Rise n:=by rw [hn];exact wU f _ c
  have hall:∀ ps:List PhiD,(∀ p ∈ ps,iL f.blocks.length p=true) -> (!ps.any fun p => !decide (jH p.src=n))=ps.all (fR n):=by
   intro ps
   induction ps with
   | nil=>intro _;rfl
   | cons p ps ih =>
    intro h
    rw [List.any_cons,List.all_cons, <-ih (fun q hq=>h q (bX _ hq)),tD (aAF (h p dL)) hr,Bool.not_or,Bool.not_not]
  exact hall _ hk)
 obtain ⟨nb,hnb⟩ : ∃ nb,nb=f.blocks.length:=⟨_,rfl⟩
 have HNB:=h! hnb
 rw [<-hnb] at hcl HG3
 have hnb32:nb <= 17592186044416:=by rw [hnb];exact hbl
 clear hS hB hc hx hC hba hbx hn hnb hbl hbc hbm
 go_enter Tryz.func88,Tryz.ntmps88
 go_upto_region 1 with (fail)
 have hA_:=(Below.refl w.heap.size w).alloc (aA _) (.cells #[.pointer (some ⟨bs,0,none⟩)] 88)
 have HW:=h! hA_
 clear hA_
 have B1:=h! (Box.new w #[.pointer (some ⟨bs,0,none⟩)] 88)
 have hz0_:(w.alloc (.cells #[.pointer (some ⟨bs,0,none⟩)] 88)).heap.size=w.heap.size+1:=World.size_alloc _ _
 generalize w.alloc (.cells #[.pointer (some ⟨bs,0,none⟩)] 88)=wv0 at *
 have hA_:=(Below.refl wv0.heap.size wv0).alloc (aA _) (.cells #[.int .i64 c] 3)
 replace B1:=h! (B1.out.later hA_)
 replace HW:=h! (HW.out.trans (hA_.mono HW.out.size))
 clear hA_
 have B2:=h! (Box.new wv0 #[.int .i64 c] 3)
 rw [hz0_] at B2
 clear hz0_
 generalize wv0.alloc (.cells #[.int .i64 c] 3)=wv at *
 obtain ⟨lB1,cB1,fB1⟩:=B1.out
 obtain ⟨lB2,cB2,fB2⟩:=B2.out
 refine wp_region_grow 19 (fun kz=>match kz with | 16=>.const (.bool (x.phis.any fun p => !decide (jH p.src=n))) | _=>.plain) (by kernel_rfl) (by kernel_rfl) ?_ (fun ν => ?_)
 ·(intro k;(try dsimp only);split <;> first | exact True.intro | (intro u w1 w2 hu hb;exact hu.below hb))
 simp only [aQ,aU,aT,aY]
 iterate 16 (refine Grow.val (v := ?_) rfl rfl (fun wg hbg hdg => ?_) ?_;rotate_left;(focus ((obtain ⟨lg0,cg0,fg0⟩:=B1.out.later hbg);(obtain ⟨lg1,cg1,fg1⟩:=B2.out.later hbg);(have hW3:=HW.out.trans (hbg.mono HW.out.size);obtain ⟨xl1,xc1,xf1⟩:=(HS.out.later hW3).s;have xt:=(hW3.cell (p:=⟨bt,0,none⟩) HTL.out).trans HT0.out;have xg:=(hW3.cell (p:=⟨bg,3,none⟩) HGL.out).trans HG3.out;obtain ⟨k0,k1,k2,k3,k4,k5, -, -, -, -, -, -⟩:=HC.out.below hW3 hbw);clear hbg hdg;first | (go_simp;done) | (go_simp;with_reducible rfl)));simp only [Act.put,aB,aE,aF])
 refine Grow.call (f := ?_) (args := ?_) rfl (fun wg => ?_) (fun wg hbg hdg => ?_) ?_
 rotate_left 2
 focus (first | (go_simp;done) | (go_simp;refine And.intro ?_ ?_ <;> with_reducible rfl) | (go_simp;with_reducible rfl))
 focus (have hW3:=HW.out.trans (hbg.mono HW.out.size);exact (aCP tC (fun p => !decide (jH p.src=n)) (HPH.out.below PhiR.lasting hW3) (fun W p pv hp hpv hW=>by have hW4:=hW3.trans (hW.mono hW3.size);have h9:=aF7 (HS.out.later hW4) HCL.out hpv (B1.out.later (hbg.trans (hW.mono hbg.size))) (B2.out.later (hbg.trans (hW.mono hbg.size)));rw [<-HN.out] at h9;exact h9)).mono (fun e w2 ⟨he,hw⟩=>⟨_,he,rfl,hw⟩))
 simp only [Act.put,Known.val,aB,aE,aF]
 iterate 2 (refine Grow.val (v := ?_) rfl rfl (fun wg hbg hdg => ?_) ?_;rotate_left;(focus ((obtain ⟨lg0,cg0,fg0⟩:=B1.out.later hbg);(obtain ⟨lg1,cg1,fg1⟩:=B2.out.later hbg);(have hW3:=HW.out.trans (hbg.mono HW.out.size);obtain ⟨xl1,xc1,xf1⟩:=(HS.out.later hW3).s;have xt:=(hW3.cell (p:=⟨bt,0,none⟩) HTL.out).trans HT0.out;have xg:=(hW3.cell (p:=⟨bg,3,none⟩) HGL.out).trans HG3.out;obtain ⟨k0,k1,k2,k3,k4,k5, -, -, -, -, -, -⟩:=HC.out.below hW3 hbw);clear hbg hdg;first | (go_simp;done) | (go_simp;with_reducible rfl)));simp only [Act.put,aB,aE,aF])
 intro wg hb hf hap
 clear hap
 clear lB1 cB1 fB1 lB2 cB2 fB2
 replace B1:=h! (B1.out.later hb)
 replace B2:=h! (B2.out.later hb)
 replace HW:=h! (HW.out.trans (hb.mono HW.out.size))
 clear hb
 obtain ⟨lB1,cB1,fB1⟩:=B1.out
 obtain ⟨lB2,cB2,fB2⟩:=B2.out
 clear hf
 go_wp2
 go_ret
 refine ⟨?_,HW.out⟩
 rw [<-HN.out, <-HALL.out]
 rfl
end Go.Proofs.YtagabiidbbhhmaaGreat
