/- Part 40. -/
import Derived.Test.YtcmflfkpeodicaaGreatIRA39
import Derived.Shelf.Sort.Plain
import Derived.Shelf.Slices.In.SortNone
import Derived.Maps.RangeWalk
import Derived.RangeFuncNested
import Derived.RangeFuncBound
namespace Go.Proofs.YtcmflfkpeodicaaGreat
set_option maxHeartbeats 12800000
set_option linter.all false
open Go.RowKit
def fJ (xs:List Int) (p:PhiD):Bool:=decide (p.src.length=xs.length) && xs.all fun t=>p.src.contains t
set_option maxRecDepth 100000 in
theorem aD4 {w:World} {pv A1 A2 A3 A4 A5 u:Value} {ps:List PhiD} {xs:List Int} (hp:eQ PhiR 4 w pv ps) (hu:Ints w u xs) :
  Calls Tryz.prog 62 #[.agg #[pv,A1,A2,A3,A4,A5],u] w fun e w'=>e = .returned (.bool (ps.all (fJ xs)))/\Below w.heap.size w w':=by
 obtain ⟨a1,c1,b1,o1,rfl,hc1,hm1,hl1,ha1,hx⟩:=fV hp
 have hul16:=hu.le
 obtain ⟨ua,uc,ub,uo,rfl,huc,hum,hua,hux⟩:=hu.parts
 obtain ⟨pl,hpl⟩ : ∃ n,n=ps.length:=⟨_,rfl⟩
 obtain ⟨ul,hul⟩ : ∃ n,n=xs.length:=⟨_,rfl⟩
 rw [<-hpl] at hc1 hl1 ha1 ⊢
 rw [<-hul] at huc hua hux hul16 ⊢
 have HPL:=h! hpl
 have HUL:=h! hul
 have HA1:=h! ha1
 have HX:=h! hx
 have HUA:=h! hua
 have HUX:=h! hux
 clear hp hu hpl hul ha1 hx hua hux
 go_enter Tryz.func62,Tryz.ntmps62
 go_upto_region 1 with (fail)
 have hA_:=(Below.refl w.heap.size w).alloc (aF _) (.cells #[.slice a1 pl c1,A1,A2,A3,A4,A5] 50)
 have HW:=h! hA_
 clear hA_
 have B1:=h! (Box.new w #[.slice a1 pl c1,A1,A2,A3,A4,A5] 50)
 generalize w.alloc (.cells #[.slice a1 pl c1,A1,A2,A3,A4,A5] 50)=wv at *
 obtain ⟨lB1,cB1,fB1⟩:=B1.out
 go_wp2_with fail
 go_loopw [5] (fun i wr => ∃ j:Nat,j <= pl/\i = .int .i64 j/\(ps.take j).all (fJ xs)=true/\Below w.heap.size w wr/\Box wr w.heap.size #[.slice a1 pl c1,A1,A2,A3,A4,A5]) (fun i _=>pl - (intOf i).toNat)
 case atStart=>exact ⟨0,aP _,rfl,rfl,HW.out,B1.out⟩
 case round =>
  obtain ⟨j,hj,rfl,hs,hW,h1⟩:=hrel
  clear lB1 cB1 fB1
  have HS:=h! hs
  replace HW:=h! hW
  replace B1:=h! h1
  clear hs hW h1
  generalize wr=w3 at *
  obtain ⟨lB1,cB1,fB1⟩:=B1.out
  by_cases hlt:j < pl
  ·obtain ⟨rfl,hb1⟩:=HA1.out (by omega)
   obtain ⟨p,hxm⟩ : ∃ p,ps[j]? = some p:=⟨_,aB (by have:=HPL.out;omega)⟩
   obtain ⟨af,av,cf,cv,hP⟩:=HX.out j p hxm
   obtain ⟨m0,m1,m2,m3,r1,r2,r3,r4⟩:=hP.below HW.out hb1
   have HXM:=h! (aG hxm)
   have HTK:=h! (eP ps j p hxm)
   have HC2:=h! hP.c2
   have HSRC:=h! hP.src
   obtain ⟨sl,hsl⟩ : ∃ sl,sl=p.src.length:=⟨_,rfl⟩
   rw [<-hsl] at HC2 HSRC m2
   have HSL:=h! hsl
   have hsl16:sl <= 17592186044416:=by rw [hsl];exact hP.src.le
   clear hxm hP r1 r2 r3 r4 m0 m1 m3 hsl
   by_cases hlen:sl=ul
   ·have hq:((sl:Int) != (ul:Int))=false:=by simp [hlen]
    have HLEN:Hid (p.src.length=xs.length):=h! (by rw [<-HSL.out, <-HUL.out];exact hlen)
    clear hlen
    go_wp2_with fail
    clear m2
    go_loopw [6] (fun i wr => ∃ t:Nat,t <= ul/\i = .int .i64 t/\((xs.take t).all fun t=>p.src.contains t)=true/\Below w.heap.size w wr/\Box wr w.heap.size #[.slice (some ⟨b1,o1,none⟩) pl c1,A1,A2,A3,A4,A5]) (fun i _=>ul - (intOf i).toNat)
    case atStart=>exact ⟨0,aP _,rfl,rfl,HW.out,B1.out⟩
    obtain ⟨t,ht,rfl,hs,hW,h1⟩:=hrel
    clear lB1 cB1 fB1
    have HS2:=h! hs
    replace HW:=h! hW
    replace B1:=h! h1
    clear hs hW h1
    generalize wr=w5 at *
    obtain ⟨lB1,cB1,fB1⟩:=B1.out
    by_cases hltt:t < ul
    ·obtain ⟨rfl,hub⟩:=HUA.out (by omega)
     obtain ⟨y,hy⟩ : ∃ y,y=xs.getD t 0:=⟨_,rfl⟩
     have CU:=h! ((HW.out.cell (p:=⟨ub,uo+t,none⟩) hub).trans (HUX.out t hltt))
     rw [<-hy] at CU
     have hym:xs[t]? = some y:=by rw [hy];exact eX xs t (by have:=HUL.out;omega)
     have HTK2:=h! (eP xs t y hym)
     have HYM:=h! (aG hym)
     have CUl:=World.block_lt_of_cell? w5 _ CU.out
     have CS:=h! ((HW.out.cell (p:=⟨b1,o1+j * 4+2,none⟩) hb1).trans HC2.out)
     have CSl:=World.block_lt_of_cell? w5 _ CS.out
     obtain ⟨c,hc⟩ : ∃ c,c=p.src.contains y:=⟨_,rfl⟩
     have HC:=h! hc
     have HCT:Hid (∀ wg,Below w5.heap.size w5 wg -> Calls Tryz.prog 29 #[.slice af sl cf,.int .i64 y] wg fun e w'=>e = .returned (.bool c)/\Below wg.heap.size wg w'):=h! (fun wg hbg=>by
      rw [hc]
      exact (aDA (x:=y) (HSRC.out.below (HW.out.trans (hbg.mono HW.out.size)))).mono (fun e w2 ⟨h1,h2⟩=>⟨h1,h2 ▸ Below.refl _ _⟩))
     clear hy hym hc
     go_upto_region 9 with (fail)
     refine wp_region_grow 12 (fun kz=>match kz with | 10=>.const (.bool c) | _=>.plain) (by kernel_rfl) (by kernel_rfl) ?_ (fun ν => ?_)
     ·(intro k;(try dsimp only);split <;> first | exact True.intro | (intro u w1 w2 hu hb;exact hu.below hb))
     simp only [aK,aR,aM,aT]
     iterate 10 (refine Grow.val (v := ?_) rfl rfl (fun wg hbg hdg => ?_) ?_;rotate_left;(focus ((obtain ⟨lg0,cg0,fg0⟩:=B1.out.later hbg);(have hcl:=(hbg.cell (p:=⟨ub,uo+t,none⟩) CUl).trans CU.out;have hcr:=(hbg.cell (p:=⟨b1,o1+j * 4+2,none⟩) CSl).trans CS.out);clear hbg hdg;first | (go_simp;done) | (go_simp;with_reducible rfl)));simp only [Act.put,aA,aC,aD])
     refine Grow.call (f := ?_) (args := ?_) rfl (fun wg => ?_) (fun wg hbg hdg => ?_) ?_
     rotate_left 2
     focus (first | (go_simp;done) | (go_simp;refine And.intro ?_ ?_ <;> with_reducible rfl) | (go_simp;with_reducible rfl))
     focus exact Calls.mono (HCT.out wg hbg) (fun e w2 ⟨he,hb2⟩=>⟨_,he,rfl,hb2⟩)
     simp only [Act.put,Known.val,aA,aC,aD]
     refine Grow.val (v := ?_) rfl rfl (fun wg hbg hdg => ?_) ?_
     rotate_left
     focus ((obtain ⟨lg0,cg0,fg0⟩:=B1.out.later hbg);(have hcl:=(hbg.cell (p:=⟨ub,uo+t,none⟩) CUl).trans CU.out;have hcr:=(hbg.cell (p:=⟨b1,o1+j * 4+2,none⟩) CSl).trans CS.out);clear hbg hdg;first | (go_simp;done) | (go_simp;with_reducible rfl))
     simp only [Act.put,aA,aC,aD]
     intro wg hb hf hap
     clear hap
     clear lB1 cB1 fB1
     replace B1:=h! (B1.out.later hb)
     replace HW:=h! (HW.out.trans (hb.mono HW.out.size))
     clear hb
     obtain ⟨lB1,cB1,fB1⟩:=B1.out
     clear hf
     cases c
     ·have HNO:Hid (ps.all (fJ xs)=false):=h! (by
       rw [bZ]
       refine ⟨p,HXM.out, ?_⟩
       unfold fJ
       rw [aN,not_and]
       intro _ h
       rw [aZ] at h
       have:=h y HYM.out
       rw [<-HC.out] at this
       cases this)
      go_wp2
      go_ret
      exact ⟨fS HNO.out.symm,HW.out⟩
     have HNX:Hid (((xs.take (t+1)).all fun t=>p.src.contains t)=true):=h! (by rw [HTK2.out,List.all_append,HS2.out];simpa using HC.out.symm)
     go_wp2
     go_roundw
     case rel=>exact ⟨t+1,hltt,by go_num,HNX.out,HW.out,B1.out⟩
     simp [intOf];omega
    have HNX:Hid ((ps.take (j+1)).all (fJ xs)=true):=h! (by
     rw [HTK.out,cX,HS.out]
     have h9:=HS2.out
     rw [aI (by have:=HUL.out;omega)] at h9
     simp only [List.all_cons,List.all_nil,Bool.and_true,cQ]
     unfold fJ
     rw [h9,decide_eq_true HLEN.out];rfl)
    go_wp2
    go_roundw
    case rel=>exact ⟨j+1,hlt,by go_num,HNX.out,HW.out,B1.out⟩
    simp [intOf];omega
   have hq:((sl:Int) != (ul:Int))=true:=by simp;omega
   have HNO:Hid (ps.all (fJ xs)=false):=h! (by
    rw [bZ]
    refine ⟨p,HXM.out, ?_⟩
    unfold fJ
    rw [decide_eq_false (by rw [<-HSL.out, <-HUL.out];exact hlen)]
    simp)
   clear hlen
   go_wp2
   go_ret
   exact ⟨fS HNO.out.symm,HW.out⟩
  have HYES:Hid (ps.all (fJ xs)=true):=h! (by have h9:=HS.out;rw [aI (by have:=HPL.out;omega)] at h9;exact h9)
  go_wp2
  go_ret
  exact ⟨fS HYES.out.symm,HW.out⟩
open Go.RowKit Go.Shelf
def rI:Go.Shelf.Ren:=⟨fun | 189=>44 | 125=>89 | 257=>88 | 128=>152 | 129=>153 | 294=>143 | 295=>144 | 296=>145 | 297=>146 | 298=>147 | 299=>148 | 216=>149 | 300=>150 | 301=>151 | 328=>193 | 329=>194 | 330=>195 | 331=>196 | 332=>197 | 215=>198 | 343=>219 | n=>n,
 fun | 28=>22 | 3=>3 | 46=>160 | 0=>0 | 51=>222 | 53=>176 | 4=>4 | 183=>216 | 182=>215 | 131=>183 | 5=>5 | 9=>9 | 218=>254 | 222=>252 | 228=>267 | 229=>268 | n=>n,
 fun | n=>n⟩
theorem uP:Go.Proofs.Lays.n189 Tryz.prog rI := {
 mixed:=by kernel_rfl
 f125:=Tryz.func89.trans (congrArg some (by kernel_rfl))
 f128:=Tryz.func152.trans (congrArg some (by kernel_rfl))
 f129:=Tryz.func153.trans (congrArg some (by kernel_rfl))
 f189:=Tryz.func44.trans (congrArg some (by kernel_rfl))
 f215:=Tryz.func198.trans (congrArg some (by kernel_rfl))
 f216:=Tryz.func149.trans (congrArg some (by kernel_rfl))
 f257:=Tryz.func88.trans (congrArg some (by kernel_rfl))
 f294:=Tryz.func143.trans (congrArg some (by kernel_rfl))
 f295:=Tryz.func144.trans (congrArg some (by kernel_rfl))
 f296:=Tryz.func145.trans (congrArg some (by kernel_rfl))
 f297:=Tryz.func146.trans (congrArg some (by kernel_rfl))
 f298:=Tryz.func147.trans (congrArg some (by kernel_rfl))
 f299:=Tryz.func148.trans (congrArg some (by kernel_rfl))
 f300:=Tryz.func150.trans (congrArg some (by kernel_rfl))
 f301:=Tryz.func151.trans (congrArg some (by kernel_rfl))
 f328:=Tryz.func193.trans (congrArg some (by kernel_rfl))
 f329:=Tryz.func194.trans (congrArg some (by kernel_rfl))
 f330:=Tryz.func195.trans (congrArg some (by kernel_rfl))
 f331:=Tryz.func196.trans (congrArg some (by kernel_rfl))
 f332:=Tryz.func197.trans (congrArg some (by kernel_rfl))
 f343:=Tryz.func219.trans (congrArg some (by kernel_rfl))
 t0:=Tryz.underlying0
 a0:=Tryz.isAgg0
 z0:=Tryz.sizeOf0
 v0:=Tryz.zeroValue0
 t3:=Tryz.underlying3
 a3:=Tryz.isAgg3
 z3:=Tryz.sizeOf3
 v3:=Tryz.zeroValue3
 t4:=Tryz.underlying4
 a4:=Tryz.isAgg4
 z4:=Tryz.sizeOf4
 v4:=Tryz.zeroValue4
 t5:=Tryz.underlying5
 a5:=Tryz.isAgg5
 z5:=Tryz.sizeOf5
 v5:=Tryz.zeroValue5
 t9:=Tryz.underlying9
 a9:=Tryz.isAgg9
 z9:=Tryz.sizeOf9
 v9:=Tryz.zeroValue9
 t28:=Tryz.underlying22
 a28:=Tryz.isAgg22
 z28:=Tryz.sizeOf22
 v28:=Tryz.zeroValue22
 t46:=Tryz.underlying160
 a46:=Tryz.isAgg160
 z46:=Tryz.sizeOf160
 v46:=Tryz.zeroValue160
 t51:=Tryz.underlying222
 a51:=Tryz.isAgg222
 z51:=Tryz.sizeOf222
 v51:=Tryz.zeroValue222
 t53:=Tryz.underlying176
 a53:=Tryz.isAgg176
 z53:=Tryz.sizeOf176
 v53:=Tryz.zeroValue176
 t131:=Tryz.underlying183
 a131:=Tryz.isAgg183
 z131:=Tryz.sizeOf183
 v131:=Tryz.zeroValue183
 t182:=Tryz.underlying215
 a182:=Tryz.isAgg215
 z182:=Tryz.sizeOf215
 v182:=Tryz.zeroValue215
 t183:=Tryz.underlying216
 a183:=Tryz.isAgg216
 z183:=Tryz.sizeOf216
 v183:=Tryz.zeroValue216
 t218:=Tryz.underlying254
 a218:=Tryz.isAgg254
 z218:=Tryz.sizeOf254
 v218:=Tryz.zeroValue254
 t222:=Tryz.underlying252
 a222:=Tryz.isAgg252
 z222:=Tryz.sizeOf252
 v222:=Tryz.zeroValue252
 t228:=Tryz.underlying267
 a228:=Tryz.isAgg267
 z228:=Tryz.sizeOf267
 v228:=Tryz.zeroValue267
 t229:=Tryz.underlying268
 a229:=Tryz.isAgg268
 z229:=Tryz.sizeOf268
 v229:=Tryz.zeroValue268 }
section
variable {P:Program} {w:World} {ops:Array Oper} {rest:List Oper} {o:Oper} {a:Act} {Q:Exit -> Act -> World -> Prop}
end
def mE (xs:List Int):List Int:=xs.mergeSort fun x y=>decide (x <= y)
theorem iZ (xs:List Int):(mE xs).Perm xs:=List.mergeSort_perm _ _
theorem wQ {xs:List Int} (h:xs.Nodup):Rise (mE xs):=by
 have h1:(mE xs).Pairwise (fun a b=>decide (a <= b)=true):=List.pairwise_mergeSort (fun a b c h1 h2=>by simp at *;omega) (fun a b=>by simp;omega) xs
 have h2:(mE xs).Nodup:=(iZ xs).nodup_iff.2 h
 unfold Rise
 rw [dZ] at h2
 exact (h1.and h2).imp fun ⟨a,b⟩=>by simp at a;omega
theorem uQ:∀ {xs ys:List Int},Rise xs -> Rise ys -> (∀ x,x ∈ xs ↔ x ∈ ys) -> xs=ys
 | [],[],_,_,_=>rfl
 | [],y :: ys,_,_,h=>by have:=(h y).2 (by simp);cases this
 | x :: xs,[],_,_,h=>by have:=(h x).1 (by simp);cases this
 | x :: xs,y :: ys,hx,hy,h=>by
  unfold Rise at hx hy
  rw [List.pairwise_cons] at hx hy
  have e:x=y:=by
   have h1:=(h x).1 (by simp)
   have h2:=(h y).2 (by simp)
   rcases bM.1 h1 with h1 | h1
   ·exact h1
   rcases bM.1 h2 with h2 | h2
   ·exact h2.symm
   have:=hy.1 x h1;have:=hx.1 y h2;omega
  subst e
  congr 1
  refine uQ hx.2 hy.2 fun z=>⟨fun hz => ?_,fun hz => ?_⟩
  ·have h1:=hx.1 z hz
   rcases bM.1 ((h z).1 (by simp [hz])) with h2 | h2
   ·omega
   exact h2
  have h1:=hy.1 z hz
  rcases bM.1 ((h z).2 (by simp [hz])) with h2 | h2
  ·omega
  exact h2
theorem aD5 {w:World} {base:Nat} {u:Value} {xs:List Int} (h:w.ownsRow base 3 1 u xs.length (xs.map (.int .i64))) (hn:xs.length <= 17592186044416) (hb:base <= w.heap.size) :
  Calls Tryz.prog 44 #[u] w fun e w'=>e = .returned (.tuple #[])/\w'.ownsRow base 3 1 u xs.length ((mE xs).map (.int .i64))/\Below base w w':=by
 rcases h.2 with ⟨rfl,h0⟩ | ⟨g,cap,cur,rfl,hbg,hh,h1,h2,h3,h4⟩
 ·refine (Any.slices_Sort_int_none uP none 0 w).mono ?_
  rintro e w' ⟨rfl,rfl⟩
  refine ⟨rfl,⟨by rw [bD,(iZ xs).length_eq];simp,.inl ⟨rfl,h0⟩⟩,Below.refl _ _⟩
 ·refine (Any.slices_Sort_int uP g 0 cap xs w (Go.holds_of_blockI hh (by rw [eF] at h4;exact h4)) (aS.1 hh).1 (by omega)).mono ?_
  rintro e w' ⟨rfl,nd,os,rfl⟩
  refine ⟨rfl,Go.ownsRow_sortedI (List.mergeSort_perm _ _).length_eq hbg hh h1 h2 h3, ?_⟩
  exact (Below.refl _ _).grown (Go.grownBy_sortedI _) hb fun k hk=>by cases hk;exact hbg
attribute [local go_sem] Oper.semAt_some
def upto (xs:List Int) (k:Nat):List Int:=(List.range k).map fun j=>xs[j]?.getD 0
theorem yV (xs:List Int) (k:Nat):upto xs (k+1)=upto xs k ++ [xs[k]?.getD 0]:=by simp [upto,List.range_succ]
theorem tE (xs:List Int) (k:Nat):(upto xs k).length=k:=by simp [upto]
theorem aBS (xs:List Int):upto xs xs.length=xs:=by
 apply List.ext_getElem
 ·simp [upto]
 intro i h1 h2
 simp [upto,h2]
set_option maxRecDepth 100000 in
theorem wR (n:Nat) (hn:1 <= n) (l Bs n0 c b off len:Nat) (a:Option Addr) (xs:List Int) (HL:Hid (xs.length=len)) (hle:len <= 17592186044416) (ha:0 < len -> a=some ⟨b,off,none⟩/\b < n0) (J Jx:List Int -> World -> Prop)
  (hY:∀ pre x W,J pre W -> pre.length < len -> YieldAt Fence.wide (n - 1) Tryz.prog l #[.int .i64 x] W fun e W' =>
   (e = .returned (.bool true)/\J (pre ++ [x]) W' /\ Below n0 W W') \/ (e = .returned (.bool false)/\Jx (pre ++ [x]) W'))
  (W:World) (hBs:W.cell? ⟨Bs,0,none⟩=some (.slice a len c)) (hc:∀ j,j < len -> W.cell? ⟨b,off+j,none⟩=some (.int .i64 (xs[j]?.getD 0))) (h0:J [] W) :
  CallsIn Fence.wide n Tryz.prog 190 #[.func (.yield l) #[] #[],.pointer (some ⟨Bs,0,none⟩)] W fun e W'=>(∃ v,e = .returned v) /\
   ((∃ ys,ys=xs/\J ys W') \/ (∃ pre,True/\Jx pre W')):=by
 refine callsIn_of_wp Tryz.func190 rfl trivial ?_ rfl
 simp only [Tryz.ntmps190,List.size_toArray,bB,cD,Nat.reduceAdd,Nat.reduceSub,Array.replicate_succ,Array.replicate_zero,List.push_toArray,List.append_toArray,dW,List.cons_append]
 gi_wp2
 gi_loopw [7] (fun i wr => ∃ k:Nat,k <= len/\i = .int .i64 k/\J (upto xs k) wr/\Below n0 W wr)
  (fun i _=>len - (intOf i).toNat)
 case atStart=>exact ⟨0,aP _,rfl,h0,Below.refl _ _⟩
 case round =>
  obtain ⟨k,hk,rfl,hJs,hnx⟩:=hrel
  by_cases hlt:k < len
  ·have hab:=ha (by omega)
   clear ha
   obtain ⟨rfl,hb⟩:=hab
   have hcx' : wr.cell? ⟨b,off+k,none⟩=some (.int .i64 (xs[k]?.getD 0)):=(hnx.cell (p:=⟨b,off+k,none⟩) hb).trans (hc k hlt)
   obtain ⟨fn,tmps,assign,body,hy,hR⟩:=hY _ (xs[k]?.getD 0) wr hJs (by rw [tE];exact hlt)
   gi_wp2
   refine hR.mono ?_
   rintro e W3 (⟨rfl,hJ3,hk3⟩ | ⟨rfl,hJx3⟩)
   ·gi_wp2
    go_roundw
    case rel=>exact ⟨k+1,by omega,by go_num,by rw [yV];exact hJ3,hnx.trans hk3⟩
    simp [intOf];omega
   gi_wp2
   refine bodyPost_ret (results_none rfl _ _ _) rfl ?_
   exact ⟨⟨_,rfl⟩,.inr ⟨_,trivial,hJx3⟩⟩
  have hkl:k=len:=by omega
  have hall:upto xs k=xs:=by rw [hkl, <-HL.out];exact aBS xs
  rw [hall] at hJs
  clear hall
  gi_wp2
  go_end0
  exact ⟨⟨_,rfl⟩,.inl ⟨_,rfl,hJs⟩⟩
theorem aD6 {w:World} {v:Value} {xs:List Int} (hs:Ints w v xs) :
  Calls Tryz.prog 133 #[v] w fun e w' => ∃ B,e = .returned (.func (.func 190) #[] #[.pointer (some ⟨B,0,none⟩)])/\w.heap.size <= B/\Box w' B #[v]/\Below w.heap.size w w':=by
 obtain ⟨a,c,b,o,rfl, -⟩:=hs.parts
 obtain ⟨len,hlen⟩ : ∃ len,len=xs.length:=⟨_,rfl⟩
 rw [<-hlen]
 clear hs hlen
 go_enter Tryz.func133,Tryz.ntmps133
 go_wp2
 go_ret
 exact ⟨_,rfl,aF _,Box.new _ _ _,(Below.refl _ _).alloc (aF _) _⟩
theorem rJ (n:Nat) (hn:1 <= n) (Bs n0:Nat) {v:Value} {xs:List Int} (w:World) (hs:Ints w v xs) (hBs:Bs < w.heap.size) (hn0:n0=w.heap.size)
  (hc:w.cell? ⟨Bs,0,none⟩=some v) :
  SeqStopsK Fence.wide n Tryz.prog 190 #[.pointer (some ⟨Bs,0,none⟩)] (fun x:Int=>#[Value.int .i64 x]) (Below n0) (fun ys=>ys=xs) (fun _=>True) xs.length w:=fun l J Jx W hW _ _ hY h0=>by
 obtain ⟨a,c,b,o,rfl, -, -,ha,hx⟩:=hs.parts
 refine wR n hn l Bs n0 c b o xs.length a xs (h! rfl) hs.1.big (fun hp => ?_) J Jx hY W ((hW.cell (p:=⟨Bs,0,none⟩) hBs).trans hc) (fun j hj => ?_) h0
 ·obtain ⟨h1,h2⟩:=ha (by first | exact hp | simpa using hp)
  exact ⟨h1,by omega⟩
 ·obtain ⟨h1,h2⟩:=ha (by omega)
  rw [hW.cell (p:=⟨b,o+j,none⟩) (by simp only;omega)]
  have:=hx j (by first | exact hj | simpa using hj)
  rw [aH] at this
  exact this
theorem qL:(Tryz.prog.info? 3).map (fun i=>(i.zero,i.size,i.bytes))=some (some (.int .i64 0),1,8):=by kernel_rfl
set_option maxRecDepth 100000 in
theorem wS {w:World} {v:Value} {xs:List Int} {Bv:Nat} (hs:Ints w v xs) (hBv:Box w Bv #[v]) :
  Calls Tryz.prog 218 #[.slice none 0 0,.func (.func 190) #[] #[.pointer (some ⟨Bv,0,none⟩)]] w fun e w' => ∃ u,e = .returned u/\New 3 w w' u xs/\Below w.heap.size w w':=by
 obtain ⟨i0,hi,hz0,hz1,hz2⟩:=info_parts qL
 have hle:xs.length <= 17592186044416:=hs.1.big
 have h64:=hs.2
 refine (callsIn_wide (n:=6)).1 ?_
 refine callsIn_of_wp_marks Tryz.func218 rfl trivial ?_ rfl
 simp only [Tryz.ntmps218,List.size_toArray,bB,cD,Nat.reduceAdd,Nat.reduceSub,Array.replicate_succ,Array.replicate_zero,List.push_toArray,List.append_toArray,dW,List.cons_append]
 gi_wp2
 have bO:=Boxed.new w 22 (.slice none 0 0)
 have hB0:Below w.heap.size w (w.alloc (.cells #[.slice none 0 0] 22)):=(Below.refl _ w).alloc (aF _) _
 have hs1:Ints (w.alloc (.cells #[.slice none 0 0] 22)) v xs:=hs.below hB0
 refine wpIn_rangeFunc_ownG rfl (by omega) (gf:=190) (lb:=#[.pointer (some ⟨Bv,0,none⟩)]) rfl trivial (enters_of Tryz.func190 (by kernel_rfl) rfl)
  (rJ (6 - 1) (by omega) Bv w.heap.size w hs hBv.lt rfl (by have:=hBv.cell 0;simpa using this)) belowK_t (belowK_b (by simp)) hB0 (fun _=>rfl)
  (fun pre W=>(∃ u,Boxed W w.heap.size 22 u/\W.ownsRow w.heap.size 3 1 u pre.length (pre.map (Value.int .i64))/\True)/\Below w.heap.size w W)
  (fun _ _ _=>False)
  (OwnFrom.and (_root_.Go.Own.from (holdsRow_own w.heap.size w.heap.size 22 3 1 (fun pre:List Int=>pre.length) (fun pre:List Int=>pre.map (Value.int .i64)) (fun _ _=>True)) _) (ownFrom_below (aF _) (by simp)))
  (fun _ _ _ _ _ hs _ _=>hs)
  ⟨⟨_,bO,World.ownsRow_nil _ _ _ _,trivial⟩,hB0⟩
  (fun x => { tmps:=#[.slice none 0 0,.func (.func 190) #[] #[.pointer (some ⟨Bv,0,none⟩)],.pointer (some ⟨w.heap.size,0,none⟩),undef,.slice none 0 0,.int .i64 x,.func (.func 190) #[] #[.pointer (some ⟨Bv,0,none⟩)],.int .i64 x,undef,undef,undef,undef,undef],defers:=[] }) ?assign ?body ?done ?stop
 case assign =>
  intro l x W K hK
  gi_wp2
  exact hK
 case body =>
  rintro l pre x W ⟨⟨u,hv,hrow, -⟩,hB⟩ hlt
  have hc:=hv.cell
  have hf:=hv.frozen
  gi_wp2_with (gi_at_builtin;refine wpListIn_append_own _ rfl _ _ 22 rfl w.heap.size 3 i0 (.int .i64 0) 1 8 Tryz.underlying22 hi hz0 hz1 hz2 rfl (by decide) _ _ _ rfl (hrow.alloc _) ⟨W.heap.size,0,none⟩ 1 1 [.int .i64 x] rfl rfl (cell_one_new _ _ _) (by simp [Value.oneCell']) (by unfold maxLen;omega) (by omega) (by have:=hB.size;simp;omega) ?_;intro v' w1 hown' hgrow _;obtain ⟨g',cap',rfl⟩:=ownsRow_succ hown';obtain ⟨hv1,hv2,hr2,hk2,hb2⟩:=hv.appended (by decide) hrow hB.size (aF _) hown' hgrow;have hc1:=hv1.cell;have hf1:=hv1.frozen)
  exact ⟨hk2.from _,hb2,⟨_,hv2,by simpa using hr2,trivial⟩,hB.trans hb2⟩
 case done =>
  rintro D ys W hD rfl ⟨⟨u,hv,hrow, -⟩,hB⟩ hK
  have hc:=hv.cell
  gi_wp2
  refine ⟨by simp,.inl ⟨_,_,rfl,run_takeDeferred hK, ?_⟩⟩
  exact ⟨_,results_tmp rfl _ _ _,u,rfl,⟨ownsRow_putObj hrow _ hK rfl,hle,h64⟩,hB.trans (belowK_b (w:=w) (aF _) W D _ _ (by simp at hD;omega) hK rfl rfl)⟩
 case stop =>
  rintro D c pre W _ _ h _
  exact h.elim
theorem aBT {w:World} {v:Value} {xs:List Int} {Bv:Nat} (hs:Ints w v xs) (hBv:Box w Bv #[v]) :
  Calls Tryz.prog 189 #[.func (.func 190) #[] #[.pointer (some ⟨Bv,0,none⟩)]] w fun e w' => ∃ u,e = .returned u/\New 3 w w' u xs/\Below w.heap.size w w':=by
 have HS:=h! hs
 have HB:=h! hBv
 clear hs hBv
 go_enter Tryz.func189,Tryz.ntmps189
 go_wp2_with fail
 refine (wS HS.out HB.out).mono ?_
 rintro e w' ⟨u,rfl,hN,hb⟩
 have HN:=h! hN
 have HW:=h! hb
 clear hN hb
 go_wp2
 go_ret
 exact ⟨u,rfl,HN.out,HW.out⟩
theorem aD7 {w:World} {v:Value} {xs:List Int} {Bv:Nat} (hs:Ints w v xs) (hBv:Box w Bv #[v]) :
  Calls Tryz.prog 132 #[.func (.func 190) #[] #[.pointer (some ⟨Bv,0,none⟩)]] w fun e w' => ∃ u,e = .returned u/\New 3 w w' u (mE xs)/\Below w.heap.size w w':=by
 have HS:=h! hs
 have HB:=h! hBv
 clear hs hBv
 go_enter Tryz.func132,Tryz.ntmps132
 go_wp2_with fail
 refine (aBT HS.out HB.out).mono ?_
 rintro e w1 ⟨u,rfl,hN,hb⟩
 have HN:=h! hN
 have HW:=h! hb
 clear hN hb
 go_wp2_with fail
 refine (aD5 HN.out.own HN.out.le HW.out.size).mono ?_
 rintro e w2 ⟨rfl,hO,hb2⟩
 have HO:=h! hO
 have HW2:=h! hb2
 clear hO hb2
 go_wp2
 go_ret
 have hl:(mE xs).length=xs.length:=(iZ xs).length_eq
 exact ⟨u,rfl,⟨by rw [hl];exact HO.out,by rw [hl];exact HN.out.le,fun x hx=>HN.out.all x ((iZ xs).mem_iff.1 hx)⟩,HW.out.trans HW2.out⟩
end Go.Proofs.YtcmflfkpeodicaaGreat
