/- What the claim needs,part 43. -/
import Derived.OwnWalk
import Derived.Test.YtblgdccoeecodaaQ341
import Derived.Test.YtblgdccoeecodaaQ342
import Derived.Test.YtblgdccoeecodaaQ338
namespace Go.Proofs.Ytblgdccoeecodaa
set_option linter.unusedSimpArgs false
set_option linter.unusedVariables false
open Go.RowKit
private theorem Since.alloc {w0 W:World} (h:Since w0 W) (o:Obj):Since w0 (W.alloc o):=h.later ((Below.refl _ _).alloc (Nat.le_refl _) o)
theorem entF_simplest:entF simplest=[(0,0,0)]:=by decide
set_option maxHeartbeats 12800000 in
set_option maxRecDepth 100000 in
theorem openS {w:World} {ci bb:Nat} (hi:Box w ci #[.int .i64 1,.int .i64 0,.slice none 0 0,.int .i64 5]) (hb:Box w bb #[.slice none 0 0,.slice (some ⟨ci,0,none⟩) 1 1,.int .i64 3,.int .i64 0,.slice none 0 0,.int .i64 0]) :
  Calls Try.prog 41 #[.agg #[.slice none 0 0,.int .i64 0,.int .i64 0,.slice (some ⟨bb,0,none⟩) 1 1]] w fun e w' => ∃ p,e = .returned (.tuple #[p,.int .i64 0,.int .i64 0])/\Below w.heap.size w w':=by
 have HI:=Lib.hid hi
 have HB:=Lib.hid hb
 have HV:=Lib.hid (simplest_val hi hb)
 clear hi hb
 go_enter Try.func41,Try.ntmps41
 go_upto_region 1 with (fail)
 have B1:Hid (Box (w.alloc (.cells #[.slice none 0 0,.int .i64 0,.int .i64 0,.slice (some ⟨bb,0,none⟩) 1 1] 25)) (w.heap.size) #[.slice none 0 0,.int .i64 0,.int .i64 0,.slice (some ⟨bb,0,none⟩) 1 1]):=Lib.hid (by simpa using (Box.new w #[.slice none 0 0,.int .i64 0,.int .i64 0,.slice (some ⟨bb,0,none⟩) 1 1] 25))
 have HW:Hid (Below w.heap.size w (w.alloc (.cells #[.slice none 0 0,.int .i64 0,.int .i64 0,.slice (some ⟨bb,0,none⟩) 1 1] 25))):=Lib.hid ((Below.refl _ _).alloc (Nat.le_refl _) _)
 generalize (w.alloc (.cells #[.slice none 0 0,.int .i64 0,.int .i64 0,.slice (some ⟨bb,0,none⟩) 1 1] 25))=wv at *
 obtain ⟨lB1,cB1,fB1⟩:=B1.out
 go_wp2_with fail
 refine (domOpen (HV.out.below HW.out)).mono ?_
 rintro e w2 ⟨hb,⟨hc0, -⟩ | ⟨-,bt,bg,lg,lcap,g,pv,ov,lv,O,I,rfl,hvg,hO,hT,hD⟩⟩
 ·exact absurd simplest_ok.1 hc0
 ·injection hvg with hvg
  subst hvg
  obtain ⟨t0, -, -, -,t6⟩:=hT.cells
  have t3:w2.cell? ⟨bg,3,none⟩=some (.slice (some ⟨bb,0,none⟩) 1 1):=hT.graph.at 3 rfl
  have HPL:=Lib.hid hT.place
  have HNO:Hid (idxI (placeI simplest.blocks.length O O.length) (-1) = -1):=Lib.hid (by
   have hl1:simplest.blocks.length=1:=rfl
   refine idxI_no ?_
   intro hm
   obtain ⟨j,hj⟩:=List.mem_iff_getElem?.1 hm
   have hl:=(List.getElem?_eq_some_iff.1 hj).1
   rw [placeI_len,hl1] at hl
   obtain rfl:j=0:=by omega
   rw [placeI_at (by rw [hl1];omega)] at hj
   obtain ⟨p1,p2,p3,p4,p5⟩:=hO.facts
   rw [if_pos ((p2 0).2 (.zero (by decide)))] at hj
   injection hj with hj
   omega)
  have HT0:=Lib.hid t0
  have HT3:=Lib.hid t3
  have HT6:=Lib.hid t6
  obtain ⟨S2,hS2⟩ : ∃ S2,S2=w2:=⟨_,rfl⟩
  rw [<-hS2] at HPL HT0 HT3 HT6
  have HS:Hid (Since S2 w2):=Lib.hid (by rw [hS2];exact Below.refl _ _)
  clear hO hT hD t0 t3 t6 hS2
  clear lB1 cB1 fB1
  replace B1:=Lib.hid (B1.out.later hb)
  replace HW:=Lib.hid (HW.out.trans (hb.mono HW.out.size))
  clear hb
  obtain ⟨lB1,cB1,fB1⟩:=B1.out

  go_wp2_with fail
  refine (irOpen (HV.out.below HW.out)).mono ?_
  rintro e w3 ⟨hb,m,rfl, -, -⟩
  rw [simplest_ok.1]
  clear lB1 cB1 fB1
  replace B1:=Lib.hid (B1.out.later hb)
  replace HS:=Lib.hid (HS.out.later hb)
  replace HW:=Lib.hid (HW.out.trans (hb.mono HW.out.size))
  clear hb
  obtain ⟨lB1,cB1,fB1⟩:=B1.out
  go_wp2_with fail
  refine (strictDefs (HV.out.below HW.out)).mono ?_
  rintro e w4 ⟨bm,rfl,hm, -,hb⟩
  have HMP:=Lib.hid hm
  clear hm
  clear lB1 cB1 fB1
  replace B1:=Lib.hid (B1.out.later hb)
  replace HS:=Lib.hid (HS.out.later hb)
  replace HW:=Lib.hid (HW.out.trans (hb.mono HW.out.size))
  clear hb
  obtain ⟨lB1,cB1,fB1⟩:=B1.out

  go_upto_region 6 with (fail)
  have nBSB1:w4.heap.size ≠ w.heap.size:=fun e=>by have:=lB1;omega
  have nB1BS:w.heap.size ≠ w4.heap.size:=fun e=>nBSB1 e.symm
  have B1_:Box (w4.alloc (.cells #[.pointer (some ⟨bt,0,none⟩),.map m,.map (some bm)] 128)) (w.heap.size) #[.slice none 0 0,.int .i64 0,.int .i64 0,.slice (some ⟨bb,0,none⟩) 1 1]:=by simpa using (B1.out.alloc _)
  have BS_:Box (w4.alloc (.cells #[.pointer (some ⟨bt,0,none⟩),.map m,.map (some bm)] 128)) (w4.heap.size) #[.pointer (some ⟨bt,0,none⟩),.map m,.map (some bm)]:=by simpa using (Box.new w4 #[.pointer (some ⟨bt,0,none⟩),.map m,.map (some bm)] 128)
  have HS_:=(HS.out.alloc (.cells #[.pointer (some ⟨bt,0,none⟩),.map m,.map (some bm)] 128))
  have HMP_:=(HMP.out.alloc (.cells #[.pointer (some ⟨bt,0,none⟩),.map m,.map (some bm)] 128))
  have HW_:Below w.heap.size w (w4.alloc (.cells #[.pointer (some ⟨bt,0,none⟩),.map m,.map (some bm)] 128)):=(HW.out.alloc (by first | exact Nat.le_refl _ | exact HW.out.size | (simp only [World.size_alloc,World.size_setCell];have:=HW.out.size;omega)) _)
  clear lB1 cB1 fB1
  clear B1 HS HMP HW
  generalize (w4.alloc (.cells #[.pointer (some ⟨bt,0,none⟩),.map m,.map (some bm)] 128))=w5 at *
  have B1:=Lib.hid B1_
  clear B1_
  have BS:=Lib.hid BS_
  clear BS_
  have HS:=Lib.hid HS_
  clear HS_
  have HMP:=Lib.hid HMP_
  clear HMP_
  have HW:=Lib.hid HW_
  clear HW_
  obtain ⟨lB1,cB1,fB1⟩:=B1.out
  obtain ⟨lBS,cBS,fBS⟩:=BS.out
  have HSS:Hid (SimpleS w5 w4.heap.size bt bg bb ci bm (.map m) (defM (entF simplest))):=Lib.hid ⟨BS.out,(Below.cell HS.out (World.block_lt_of_cell? S2 _ HT0.out)).trans HT0.out,(Below.cell HS.out (World.block_lt_of_cell? S2 _ HT3.out)).trans HT3.out,HB.out.later HW.out,HI.out.later HW.out,HMP.out,by rw [entF_simplest];rfl⟩
  have d0:=HSS.out.t
  have d6:=(Below.cell HS.out (World.block_lt_of_cell? S2 _ HT6.out)).trans HT6.out
  go_wp2_with fail
  refine (indexInts (x := -1) (HPL.out.below HS.out)).mono ?_
  rintro e w6 ⟨rfl,rfl⟩
  rw [HNO.out]
  clear d0 d6
  go_wp2_with fail
  go_loopw [49] (fun i wr => ∃ j:Nat,j <= 1/\i = .int .i64 j/\Below w.heap.size w wr/\Box wr w.heap.size #[.slice none 0 0,.int .i64 0,.int .i64 0,.slice (some ⟨bb,0,none⟩) 1 1]/\SimpleS wr w4.heap.size bt bg bb ci bm (.map m) (defM (entF simplest))) (fun i _=>1 - (intOf i).toNat)
  case atStart=>exact ⟨0,by omega,rfl,HW.out,B1.out,HSS.out⟩
  case round =>
   obtain ⟨j,hj,rfl,hW,hB1,hS⟩:=hrel
   clear lBS cBS fBS BS
   clear lB1 cB1 fB1
   replace HW:=Lib.hid hW
   replace B1:=Lib.hid hB1
   replace HSS:=Lib.hid hS
   clear hW hB1 hS HS HMP
   generalize wr=w7 at *



   obtain ⟨lB1,cB1,fB1⟩:=B1.out
   by_cases hlt:j < 1
   ·obtain rfl:j=0:=by omega
    go_wp2_with fail
    refine (phisS HSS.out).mono ?_
    rintro e w8 ⟨rfl,hb⟩
    clear lB1 cB1 fB1
    replace B1:=Lib.hid (B1.out.later hb)
    replace HSS:=Lib.hid (HSS.out.later hb)
    replace HW:=Lib.hid (HW.out.trans (hb.mono HW.out.size))
    clear hb
    obtain ⟨lB1,cB1,fB1⟩:=B1.out
    go_wp2
    go_roundw
    case rel=>exact ⟨1,by omega,by go_num,HW.out,B1.out,HSS.out⟩
    case measure=>simp [intOf]
   ·go_wp2_with fail
    go_loopw [61] (fun i wr => ∃ j:Nat,j <= 1/\i = .int .i64 j/\Below w.heap.size w wr/\SimpleS wr w4.heap.size bt bg bb ci bm (.map m) (defM (entF simplest))) (fun i _=>1 - (intOf i).toNat)
    case atStart=>exact ⟨0,by omega,rfl,HW.out,HSS.out⟩
    case round =>
     obtain ⟨j,hj,rfl,hW,hS⟩:=hrel
     clear lB1 cB1 fB1 B1
     replace HW:=Lib.hid hW
     replace HSS:=Lib.hid hS
     clear hW hS
     generalize wr=w9 at *



     by_cases hlt:j < 1
     ·obtain rfl:j=0:=by omega
      go_wp2_with fail
      refine (usesS HSS.out).mono ?_
      rintro e w10 ⟨rfl,hb⟩
      replace HSS:=Lib.hid (HSS.out.later hb)
      replace HW:=Lib.hid (HW.out.trans (hb.mono HW.out.size))
      clear hb
      go_wp2
      go_roundw
      case rel=>exact ⟨1,by omega,by go_num,HW.out,HSS.out⟩
      case measure=>simp [intOf]
     ·obtain rfl:j=1:=by omega
      go_wp2
      go_ret3
      exact ⟨_,rfl,HW.out⟩
set_option maxHeartbeats 3200000 in
theorem checkS {w:World} {ci bb:Nat} (hi:Box w ci #[.int .i64 1,.int .i64 0,.slice none 0 0,.int .i64 5]) (hb:Box w bb #[.slice none 0 0,.slice (some ⟨ci,0,none⟩) 1 1,.int .i64 3,.int .i64 0,.slice none 0 0,.int .i64 0]) :
  Calls Try.prog 18 #[.agg #[.slice none 0 0,.int .i64 0,.int .i64 0,.slice (some ⟨bb,0,none⟩) 1 1]] w fun e w'=>e = .returned (.tuple #[.int .i64 0,.int .i64 0])/\Below w.heap.size w w':=by
 have HI:=Lib.hid hi
 have HB:=Lib.hid hb
 clear hi hb
 go_enter Try.func18,Try.ntmps18
 go_upto_region 1 with (fail)
 have B1:Hid (Box (w.alloc (.cells #[.slice none 0 0,.int .i64 0,.int .i64 0,.slice (some ⟨bb,0,none⟩) 1 1] 25)) (w.heap.size) #[.slice none 0 0,.int .i64 0,.int .i64 0,.slice (some ⟨bb,0,none⟩) 1 1]):=Lib.hid (by simpa using (Box.new w #[.slice none 0 0,.int .i64 0,.int .i64 0,.slice (some ⟨bb,0,none⟩) 1 1] 25))
 have HW:Hid (Below w.heap.size w (w.alloc (.cells #[.slice none 0 0,.int .i64 0,.int .i64 0,.slice (some ⟨bb,0,none⟩) 1 1] 25))):=Lib.hid ((Below.refl _ _).alloc (Nat.le_refl _) _)
 generalize (w.alloc (.cells #[.slice none 0 0,.int .i64 0,.int .i64 0,.slice (some ⟨bb,0,none⟩) 1 1] 25))=wv at *
 obtain ⟨lB1,cB1,fB1⟩:=B1.out
 go_wp2_with fail
 refine (openS (HI.out.later HW.out) (HB.out.later HW.out)).mono ?_
 rintro e w2 ⟨p,rfl,hb⟩
 clear lB1 cB1 fB1
 replace B1:=Lib.hid (B1.out.later hb)
 replace HW:=Lib.hid (HW.out.trans (hb.mono HW.out.size))
 clear hb
 obtain ⟨lB1,cB1,fB1⟩:=B1.out
 go_wp2
 go_ret2
 exact ⟨rfl,HW.out⟩
end Go.Proofs.Ytblgdccoeecodaa
namespace Go.Proofs.Ytblgdccoeecodaa
set_option linter.unusedSimpArgs false
set_option linter.unusedVariables false
open Go.RowKit
def nothing:FuncD:=⟨[],0,0,[]⟩
theorem nothing_val {W:World}:FuncV W (.agg #[.slice none 0 0,.int .i64 0,.int .i64 0,.slice none 0 0]) nothing :=
 ⟨_,_,rfl,ints_nil,⟨by decide,by decide⟩,⟨by decide,by decide⟩,⟨[],Row.nil,fun j x hj=>by simp [nothing] at hj⟩⟩
theorem nothing_bad:checkF nothing=2:=by decide
set_option maxHeartbeats 6400000 in
theorem awake5 {w:World}:Calls Try.prog 19 #[] w fun e w'=>e = .returned (.bool true)/\Below w.heap.size w w':=by
 go_enter Try.func19,Try.ntmps19
 go_wp2_with fail
 have B0:Hid (Box ((w.alloc (.cells #[.int .i64 1,.int .i64 0,.slice none 0 0,.int .i64 5] 80)).alloc (.cells #[.slice none 0 0,.slice (some ⟨w.heap.size,0,none⟩) 1 1,.int .i64 3,.int .i64 0,.slice none 0 0,.int .i64 0] 56)) (w.heap.size) #[.int .i64 1,.int .i64 0,.slice none 0 0,.int .i64 5]):=Lib.hid (by simpa using ((Box.new w #[.int .i64 1,.int .i64 0,.slice none 0 0,.int .i64 5] 80).alloc _))
 have B1:Hid (Box ((w.alloc (.cells #[.int .i64 1,.int .i64 0,.slice none 0 0,.int .i64 5] 80)).alloc (.cells #[.slice none 0 0,.slice (some ⟨w.heap.size,0,none⟩) 1 1,.int .i64 3,.int .i64 0,.slice none 0 0,.int .i64 0] 56)) (w.heap.size+1) #[.slice none 0 0,.slice (some ⟨w.heap.size,0,none⟩) 1 1,.int .i64 3,.int .i64 0,.slice none 0 0,.int .i64 0]):=Lib.hid (by simpa using (Box.new (w.alloc (.cells #[.int .i64 1,.int .i64 0,.slice none 0 0,.int .i64 5] 80)) #[.slice none 0 0,.slice (some ⟨w.heap.size,0,none⟩) 1 1,.int .i64 3,.int .i64 0,.slice none 0 0,.int .i64 0] 56))
 have HW:Hid (Below w.heap.size w ((w.alloc (.cells #[.int .i64 1,.int .i64 0,.slice none 0 0,.int .i64 5] 80)).alloc (.cells #[.slice none 0 0,.slice (some ⟨w.heap.size,0,none⟩) 1 1,.int .i64 3,.int .i64 0,.slice none 0 0,.int .i64 0] 56))):=Lib.hid (((Below.refl _ _).alloc (Nat.le_refl _) _).alloc (by simp) _)
 generalize ((w.alloc (.cells #[.int .i64 1,.int .i64 0,.slice none 0 0,.int .i64 5] 80)).alloc (.cells #[.slice none 0 0,.slice (some ⟨w.heap.size,0,none⟩) 1 1,.int .i64 3,.int .i64 0,.slice none 0 0,.int .i64 0] 56))=wv at *
 obtain ⟨lB0,cB0,fB0⟩:=B0.out
 obtain ⟨lB1,cB1,fB1⟩:=B1.out
 refine (checkS B0.out B1.out).mono ?_
 rintro e w2 ⟨rfl,hb⟩
 clear lB0 cB0 fB0 lB1 cB1 fB1
 replace B0:=Lib.hid (B0.out.later hb)
 replace B1:=Lib.hid (B1.out.later hb)
 replace HW:=Lib.hid (HW.out.trans (hb.mono HW.out.size))
 clear hb
 obtain ⟨lB0,cB0,fB0⟩:=B0.out
 obtain ⟨lB1,cB1,fB1⟩:=B1.out
 clear lB0 cB0 fB0 lB1 cB1 fB1
 go_wp2_with fail
 have hbA1:=(Below.refl w2.heap.size w2).alloc (Nat.le_refl _) (.cells #[.int .i64 1,.int .i64 0,.slice none 0 0,.int .i64 5] 80)
 have hbA:=hbA1.trans (((Below.refl _ _).alloc (Nat.le_refl _) (.cells #[.slice none 0 0,.slice (some ⟨w2.heap.size,0,none⟩) 1 1,.int .i64 3,.int .i64 0,.slice none 0 0,.int .i64 0] 56)).mono hbA1.size)
 have HV2:=simplest_val ((Box.new w2 #[.int .i64 1,.int .i64 0,.slice none 0 0,.int .i64 5] 80).alloc (.cells #[.slice none 0 0,.slice (some ⟨w2.heap.size,0,none⟩) 1 1,.int .i64 3,.int .i64 0,.slice none 0 0,.int .i64 0] 56)) (Box.new _ _ _)
 simp only [World.size_alloc] at HV2
 refine (defOf (id:=0) HV2).mono ?_
 rintro e w3 ⟨b,at_,g,rfl, -,hr, -,hb⟩
 obtain ⟨rfl,rfl,rfl⟩:=hr simplest_ok.1 (0,0,0) (by rw [entF_simplest];rfl)
 have hb2:=hbA.trans (hb.mono hbA.size)
 replace HW:=Lib.hid (HW.out.trans (hb2.mono HW.out.size))
 clear hr hb hbA hbA1 HV2 hb2
 go_wp2_with fail
 refine (defOf (id:=0) nothing_val).mono ?_
 rintro e w4 ⟨b,at_,g,rfl,hr, -, -,hb⟩
 obtain ⟨rfl,rfl,rfl⟩:=hr (by rw [nothing_bad];decide)
 rw [nothing_bad]
 replace HW:=Lib.hid (HW.out.trans (hb.mono HW.out.size))
 clear hr hb
 go_wp2
 go_ret
 exact ⟨rfl,HW.out⟩
end Go.Proofs.Ytblgdccoeecodaa
namespace Go.Proofs.Ytblgdccoeecodaa
set_option linter.unusedSimpArgs false
set_option linter.unusedVariables false
open Go.RowKit
def PhiV (W:World) (v:Value) (p:PhiD):Prop := ∃ s u,v = .agg #[.int .i64 p.id,.int .i64 p.typ,s,u]/\Ints W s p.src/\Ints W u p.vals
set_option maxHeartbeats 3200000 in
theorem idxFunP {w:World} {v:Value} {ps:List PhiD} {k:FuncId} {cap:Array Value} (eg:Enters Try.prog k) (g:PhiD -> Bool) (hv:SliceOf PhiR 4 w v ps)
  (hstep:∀ (W:World) (p:PhiD) (pv:Value),p ∈ ps -> PhiV W pv p -> Below w.heap.size w W -> Calls Try.prog k (#[pv] ++ cap) W fun e W'=>e = .returned (.bool (g p))/\Below W.heap.size W W') :
  Calls Try.prog 124 #[v,.func (.func k) #[] cap] w fun e w' => ∃ r:Int,e = .returned (.int .i64 r)/\decide (0 <= r)=ps.any g/\Below w.heap.size w w':=by
 obtain ⟨a1,c1,b1,o1,rfl,hc1,hm1,hl1,ha1,hx⟩:=phis_parts hv
 obtain ⟨n1,hn1⟩ : ∃ n,n=ps.length:=⟨_,rfl⟩
 rw [<-hn1] at hc1 hl1 ha1 ⊢
 have G1:=Lib.hid hn1
 have HA1:=Lib.hid ha1
 have HX:=Lib.hid hx
 have HW:=Lib.hid (Below.refl w.heap.size w)
 have HST:=Lib.hid hstep
 clear hv hn1 ha1 hx hstep
 have eg1:∀ (args:Array Value) (w:World),(callFunc k args).run Try.prog w = .ok (.enter k args) w:=eg
 go_enter Try.func124,Try.ntmps124
 go_wp2_with fail
 go_loopw [8] (fun i wr => ∃ j:Nat,j <= n1/\i = .int .i64 j/\(ps.take j).any g=false/\Below w.heap.size w wr) (fun i _=>n1 - (intOf i).toNat)
 case atStart=>exact ⟨0,Nat.zero_le _,rfl,rfl,HW.out⟩
 case round =>
  obtain ⟨j,hj,rfl,hs,hW⟩:=hrel
  have HS:=Lib.hid hs
  replace HW:=Lib.hid hW
  clear hs hW
  generalize wr=w3 at *
  by_cases hlt:j < n1
  ·obtain ⟨rfl,hb1⟩:=HA1.out (by omega)
   obtain ⟨p,hxm⟩ : ∃ p,ps[j]? = some p:=⟨_,List.getElem?_eq_getElem (by have:=G1.out;omega)⟩
   obtain ⟨af,av,cf,cv,hP⟩:=HX.out j p hxm
   obtain ⟨m0,m1,m2,m3,r1,r2,r3,r4⟩:=hP.below HW.out hb1
   have HXM:=Lib.hid (List.mem_of_getElem? hxm)
   have HTK:=Lib.hid (take_snoc ps j p hxm)
   obtain ⟨c,hc⟩ : ∃ c,c=g p:=⟨_,rfl⟩
   have HC:=Lib.hid hc
   have HCT:=Lib.hid (HST.out w3 p (.agg #[.int .i64 p.id,.int .i64 p.typ,.slice af p.src.length cf,.slice av p.vals.length cv]) HXM.out ⟨_,_,rfl,r1,r2⟩ HW.out)
   rw [<-hc] at HCT
   clear hc hxm hP r1 r2 r3 r4
   cases c
   ·go_wp2_with (go_at_fn k;refine HCT.out.mono ?_;rintro e w4 ⟨rfl,hb4⟩;have HB4:=Lib.hid hb4;clear hb4)
    have HW4:=Lib.hid (HW.out.trans (HB4.out.mono HW.out.size))
    have HS2:Hid ((ps.take (j+1)).any g=false):=Lib.hid (by rw [HTK.out,List.any_append,HS.out];simp [<-HC.out])
    go_roundw
    case rel=>exact ⟨j+1,hlt,by go_num,HS2.out,HW4.out⟩
    case measure=>simp [intOf];omega
   ·go_wp2_with (go_at_fn k;refine HCT.out.mono ?_;rintro e w4 ⟨rfl,hb4⟩;have HB4:=Lib.hid hb4;clear hb4)
    have HW4:=Lib.hid (HW.out.trans (HB4.out.mono HW.out.size))
    have HAN:Hid (ps.any g=true):=Lib.hid (by rw [List.any_eq_true];exact ⟨p,HXM.out,HC.out.symm⟩)
    go_ret
    exact ⟨j,rfl,by rw [HAN.out];simp,HW4.out⟩
  ·have HAN:Hid (ps.any g=false):=Lib.hid (by have h9:=HS.out;rw [List.take_of_length_le (by have:=G1.out;omega)] at h9;exact h9)
   go_wp2
   go_ret
   exact ⟨-1,rfl,by rw [HAN.out];simp,HW.out⟩
set_option maxHeartbeats 1600000 in
theorem contFunP {w:World} {v:Value} {ps:List PhiD} {k:FuncId} {cap:Array Value} (eg:Enters Try.prog k) (g:PhiD -> Bool) (hv:SliceOf PhiR 4 w v ps)
  (hstep:∀ (W:World) (p:PhiD) (pv:Value),p ∈ ps -> PhiV W pv p -> Below w.heap.size w W -> Calls Try.prog k (#[pv] ++ cap) W fun e W'=>e = .returned (.bool (g p))/\Below W.heap.size W W') :
  Calls Try.prog 87 #[v,.func (.func k) #[] cap] w fun e w'=>e = .returned (.bool (ps.any g))/\Below w.heap.size w w':=by
 have HC:=Lib.hid (idxFunP eg g hv hstep)
 clear hv hstep
 go_enter Try.func87,Try.ntmps87
 go_wp2_with fail
 refine HC.out.mono ?_
 rintro e w2 ⟨r,rfl,hr,hb⟩
 have HR:=Lib.hid hr
 have HB:=Lib.hid hb
 clear hr hb
 go_wp2
 go_ret
 exact ⟨ret_bool HR.out,HB.out⟩
structure StrM (f:FuncD) (W:World) (bs bt bg lg lcap bm:Nat) (g:Array Value) (pv ov lv A2:Value) (O:List Nat) (I:Nat -> Option Nat):Prop where
 s:Box W bs #[.pointer (some ⟨bt,0,none⟩),A2,.map (some bm)]
 t:TreeM f W bt bg lg lcap g pv ov lv O I
 mp:IMap W bm (defM (entF f))
theorem StrM.later {f:FuncD} {W W' : World} {bs bt bg lg lcap bm:Nat} {g:Array Value} {pv ov lv A2:Value} {O:List Nat} {I:Nat -> Option Nat} (h:StrM f W bs bt bg lg lcap bm g pv ov lv A2 O I) (hb:Below W.heap.size W W'):StrM f W' bs bt bg lg lcap bm g pv ov lv A2 O I :=
 ⟨h.s.later hb,h.t.later hb,h.mp.later hb⟩
def AheadP (f:FuncD) (d k b at_:Int):Prop:=(d=b/\k < at_) \/ (d ≠ b/\OverP f d.toNat b.toNat)
set_option maxHeartbeats 6400000 in
set_option maxRecDepth 100000 in
theorem ahead {f:FuncD} {w:World} {bs bt bg lg lcap bm:Nat} {g:Array Value} {pv ov lv A2:Value} {O:List Nat} {I:Nat -> Option Nat} (hS:StrM f w bs bt bg lg lcap bm g pv ov lv A2 O I) (hO:IsOrder f O) (hD:DomI f O I) (hc:checkF f=0)
  {id d k b at_:Int} (he:((entF f).find? fun e=>e.1 == id)=some (id,d,k)) (hd:0 <= d/\d < (f.blocks.length:Int)) (hb:0 <= b/\b < (f.blocks.length:Int)) :
  Calls Try.prog 94 #[.pointer (some ⟨bs,0,none⟩),.int .i64 id,.int .i64 b,.int .i64 at_] w fun e w' => ∃ r:Bool,e = .returned (.bool r)/\(r=true ↔ AheadP f d k b at_)/\Below w.heap.size w w':=by
 have HI:=Lib.hid hS.mp
 have HG:Hid (mget (defM (entF f)) id=some (.agg #[.int .i64 d,.int .i64 k])):=Lib.hid (by rw [def_get hc,he];rfl)
 obtain ⟨dn,rfl⟩ : ∃ dn:Nat,d=(dn:Int):=⟨d.toNat,by omega⟩
 obtain ⟨bn,rfl⟩ : ∃ bn:Nat,b=(bn:Int):=⟨b.toNat,by omega⟩
 have HOV:=Lib.hid (fun (W:World) (hW:Below w.heap.size w W)=>treeOver (a:=dn) (b:=bn) (hS.t.later hW) hO hD (formB_nb (check_fine hc).1).2 (by omega) (by omega))
 have HS:=Lib.hid hS
 obtain ⟨l1,c1,f1⟩:=hS.s
 clear hS hO hD hc he hd hb
 by_cases hdb:dn=bn
 ·have hq:((dn:Int) == (bn:Int))=true:=by simp [hdb]
  have HDB:=Lib.hid hdb
  clear hdb
  go_enter Try.func94,Try.ntmps94
  go_wp2_with (at_lookup;refine wpList_look0 (q:=.i64) (z:=.agg #[.int .i64 0,.int .i64 0]) (b:=bm) (mm:=defM (entF f)) (y:=id) rfl _ _ _ rfl Try.underlying125 Try.underlying3 (zeroDef _) rfl HI.out rfl ?_;rw [HG.out];simp only [Option.getD_some])
  have HW:=Lib.hid ((Below.refl w.heap.size w).alloc (Nat.le_refl _) (.cells #[.int .i64 dn,.int .i64 k] 133))
  go_ret
  exact ⟨decide (k < at_),rfl,by rw [decide_eq_true_iff];unfold AheadP;have:=HDB.out;constructor;exact fun h=>.inl ⟨by omega,h⟩;exact fun h=>h.elim (fun h=>h.2) (fun h=>absurd (by omega) h.1),HW.out⟩
 ·have hq:((dn:Int) == (bn:Int))=false:=by simp;omega
  have HDB:=Lib.hid hdb
  clear hdb
  go_enter Try.func94,Try.ntmps94
  go_upto_region 4 with (at_lookup;refine wpList_look0 (q:=.i64) (z:=.agg #[.int .i64 0,.int .i64 0]) (b:=bm) (mm:=defM (entF f)) (y:=id) rfl _ _ _ rfl Try.underlying125 Try.underlying3 (zeroDef _) rfl HI.out rfl ?_;rw [HG.out];simp only [Option.getD_some])
  clear l1 c1 f1
  have HW:=Lib.hid ((Below.refl w.heap.size w).alloc (Nat.le_refl _) (.cells #[.int .i64 dn,.int .i64 k] 133))
  have BX:=Lib.hid (Box.new w #[.int .i64 dn,.int .i64 k] 133)
  obtain ⟨bx,hbx⟩ : ∃ bx,bx=w.heap.size:=⟨_,rfl⟩
  have e9:(⟨w.heap.size,0,none⟩ : Addr)=⟨bx,0,none⟩:=by rw [hbx]
  rw [<-hbx] at BX
  simp only [<-hbx]
  generalize w.alloc _=w1 at *
  clear hbx e9


  obtain ⟨lBX,cBX,fBX⟩:=BX.out
  refine wp_region_grow 9 (fun kz=>match kz with | 7=>.holds (fun u w' => ∃ r:Bool,u = .bool r/\(r=true ↔ OverP f dn bn)) | _=>.plain) (by kernel_rfl) (by kernel_rfl) ?_ (fun ν => ?_)
  ·(intro k;(try dsimp only);split <;> first | exact True.intro | (intro u w1 w2 hu hb;exact hu))
  simp only [List.take_succ_cons,List.take_zero,List.drop_succ_cons,List.drop_zero]
  iterate 7 (refine Grow.val (v := ?_) rfl rfl (fun wg hbg hdg => ?_) ?_;rotate_left;(focus ((obtain ⟨lg0,cg0,fg0⟩:=BX.out.later hbg);(obtain ⟨xl1,xc1,xf1⟩:=(HS.out.later (HW.out.trans (hbg.mono HW.out.size))).s);clear hbg hdg;first | (go_simp;done) | (go_simp;with_reducible rfl)));simp only [Act.put,List.setIfInBounds_toArray,List.set_cons_zero,List.set_cons_succ])
  refine Grow.call (f := ?_) (args := ?_) rfl (fun wg => ?_) (fun wg hbg hdg => ?_) ?_
  rotate_left 2
  focus (first | (go_simp;done) | (go_simp;refine And.intro ?_ ?_ <;> with_reducible rfl) | (go_simp;with_reducible rfl))
  focus exact ((HOV.out wg (HW.out.trans (hbg.mono HW.out.size))).mono (fun e w2 ⟨r,he,hr,hw⟩=>⟨_,he,⟨r,rfl,hr⟩,hw ▸ Below.refl _ _⟩))
  simp only [Act.put,Known.val,List.setIfInBounds_toArray,List.set_cons_zero,List.set_cons_succ]
  refine Grow.val (v := ?_) rfl rfl (fun wg hbg hdg => ?_) ?_
  rotate_left
  focus ((obtain ⟨lg0,cg0,fg0⟩:=BX.out.later hbg);(obtain ⟨xl1,xc1,xf1⟩:=(HS.out.later (HW.out.trans (hbg.mono HW.out.size))).s);clear hbg hdg;first | (go_simp;done) | (go_simp;with_reducible rfl))
  simp only [Act.put,List.setIfInBounds_toArray,List.set_cons_zero,List.set_cons_succ]
  intro wg hb hf hap
  clear hap
  clear lBX cBX fBX
  replace BX:=Lib.hid (BX.out.later hb)
  replace HW:=Lib.hid (HW.out.trans (hb.mono HW.out.size))
  clear hb
  obtain ⟨lBX,cBX,fBX⟩:=BX.out
  simp only [Nat.zero_add,Nat.reduceAdd]
  have hS:∃ r:Bool, ν 7 = .bool r/\(r=true ↔ OverP f dn bn):=hf 7 (by omega)
  obtain ⟨r,hr1,hr2⟩:=hS
  simp only [hr1]
  have HR:Hid (r=true ↔ AheadP f dn k bn at_):=Lib.hid (by
   unfold AheadP
   rw [hr2]
   have:=HDB.out
   exact ⟨fun h=>.inr ⟨by omega,by simpa using h⟩,fun h=>h.elim (fun h=>absurd h.1 (by omega)) (fun h=>by simpa using h.2)⟩)
  clear hf hr1 hr2
  go_wp2
  go_ret
  exact ⟨r,rfl,HR.out,HW.out⟩
end Go.Proofs.Ytblgdccoeecodaa
namespace Go.Proofs.Ytblgdccoeecodaa
set_option linter.unusedSimpArgs false
set_option linter.unusedVariables false
open Go.RowKit
def phiFits (xs:List Int) (p:PhiD):Bool:=decide (p.src.length=xs.length) && xs.all fun t=>p.src.contains t
end Go.Proofs.Ytblgdccoeecodaa
namespace Go.Proofs.Ytblgdccoeecodaa
set_option linter.unusedSimpArgs false
set_option linter.unusedVariables false
open Go.RowKit
theorem ent_range {f:FuncD} (hn:1 <= f.blocks.length) {e:Int × Int × Int} (he:e ∈ entF f):0 <= e.2.1/\e.2.1 < (f.blocks.length:Int):=by
 unfold entF at he
 rcases List.mem_append.1 he with he | he
 ·unfold parN at he
  rw [List.mem_map] at he
  obtain ⟨j,_,rfl⟩:=he
  exact ⟨by show (0:Int) <= 0;omega,by show (0:Int) < _;omega⟩
 ·unfold blkN at he
  rw [List.mem_flatMap] at he
  obtain ⟨⟨x,c⟩,hx,he⟩:=he
  rw [List.take_length,List.mem_zipIdx_iff_getElem?] at hx
  have hc:c < f.blocks.length:=(List.getElem?_eq_some_iff.1 hx).1
  unfold entB at he
  have hd:e.2.1=(c:Int):=by
   rcases List.mem_append.1 he with he | he
   ·unfold phiN at he
    rw [List.mem_map] at he
    obtain ⟨p,_,rfl⟩:=he
    rfl
   ·unfold codN at he
    rw [List.mem_filterMap] at he
    obtain ⟨y,_,hy⟩:=he
    split at hy
    ·cases hy;rfl
    ·cases hy
  rw [hd]
  omega
theorem used_def {f:FuncD} (hc:checkF f=0) {u:UseD} (hu:u ∈ uxF f):∃ d k,((entF f).find? fun e=>e.1 == u.id)=some (u.id,d,k)/\0 <= d/\d < (f.blocks.length:Int):=by
 obtain ⟨h1,h2⟩:=check_fine hc
 have hev:=even_of h1
 have hp:u.pair ∈ usesF f:=by rw [<-ux_pairs hev];exact List.mem_map.2 ⟨u,hu,rfl⟩
 have h3:usesE (valsF f) (usesF f)=0:=by
  unfold checkF at hc
  rw [if_pos (by rw [h1,h2];rfl)] at hc
  exact hc
 have h4:(usesF f).any (fun u => !(tyOf (valsF f) u.1).isSome)=false:=by
  unfold usesE at h3
  cases h:(usesF f).any (fun u => !(tyOf (valsF f) u.1).isSome) with
  | false=>rfl
  | true=>rw [h,if_pos rfl] at h3;omega
 rw [List.any_eq_false] at h4
 have h5:=h4 u.pair hp
 have h6:u.id ∈ (entF f).map (·.1):=by
  rw [ent_keys hc]
  refine Classical.byContradiction fun h => ?_
  have h7:=tyOf_none.2 h
  have h8:u.pair.1=u.id:=rfl
  rw [h8,h7] at h5
  exact h5 rfl
 obtain ⟨e,he,hid⟩:=List.mem_map.1 h6
 cases hf:((entF f).find? fun e=>e.1 == u.id) with
 | none =>
  rw [List.find?_eq_none] at hf
  exact absurd (by simp [hid]) (hf e he)
 | some e2 =>
  have h9:=List.find?_some hf
  have h10:=List.mem_of_find?_eq_some hf
  simp only [beq_iff_eq] at h9
  obtain ⟨r1,r2⟩:=ent_range (formB_nb h1).1 h10
  obtain ⟨i,d,k⟩:=e2
  simp only at h9
  subst h9
  exact ⟨d,k,rfl,r1,r2⟩
theorem use_range {f:FuncD} (h:formB f=true) {u:UseD} (hu:u ∈ uxF f):0 <= u.blk/\u.blk < (f.blocks.length:Int)/\(u.pos < 0 -> 0 <= u.src/\u.src < (f.blocks.length:Int)):=by
 unfold uxF at hu
 rw [List.mem_flatMap] at hu
 obtain ⟨⟨x,c⟩,hx,hu⟩:=hu
 have hx2:=hx
 rw [List.mem_zipIdx_iff_getElem?] at hx
 have hc:c < f.blocks.length:=(List.getElem?_eq_some_iff.1 hx).1
 unfold formB at h
 simp only [Bool.and_eq_true,List.all_eq_true] at h
 have hok:=h.2 (x,c) hx2
 unfold blockOk at hok
 simp only [Bool.and_eq_true,List.all_eq_true] at hok
 unfold uxB at hu
 rw [List.append_assoc] at hu
 rcases List.mem_append.1 hu with hu | hu
 ·rw [List.mem_flatMap] at hu
  obtain ⟨p,hp,hu⟩:=hu
  have hpk:=hok.1.1.2 p hp
  unfold phiOk at hpk
  simp only [Bool.and_eq_true,List.all_eq_true] at hpk
  unfold uxP at hu
  rw [List.mem_map] at hu
  obtain ⟨vs,hvs,rfl⟩:=hu
  have hs:=List.of_mem_zip hvs
  have hn:=hpk.1.2 vs.2 hs.2
  unfold numB at hn
  simp at hn
  exact ⟨by show (0:Int) <= (c:Int);omega,by show (c:Int) < _;omega,fun _=>hn⟩
 ·rcases List.mem_append.1 hu with hu | hu
  ·rw [List.mem_flatMap] at hu
   obtain ⟨yk,hy,hu⟩:=hu
   unfold uxI at hu
   rw [List.mem_map] at hu
   obtain ⟨a,ha,rfl⟩:=hu
   exact ⟨by show (0:Int) <= (c:Int);omega,by show (c:Int) < _;omega,fun h=>by exfalso;have h:((yk.2:Nat):Int) < 0:=h;omega⟩
  ·unfold uxT at hu
   split at hu
   ·simp at hu
    subst hu
    exact ⟨by show (0:Int) <= (c:Int);omega,by show (c:Int) < _;omega,fun h=>by exfalso;have h:((x.code.length:Nat):Int) < 0:=h;omega⟩
   ·split at hu
    ·simp at hu
     subst hu
     exact ⟨by show (0:Int) <= (c:Int);omega,by show (c:Int) < _;omega,fun h=>by exfalso;have h:((x.code.length:Nat):Int) < 0:=h;omega⟩
    ·simp at hu
def UseOk (f:FuncD) (u:UseD):Prop := ∃ d k,((entF f).find? fun e=>e.1 == u.id)=some (u.id,d,k) /\
 ((u.pos < 0/\OverP f d.toNat u.src.toNat) \/ (¬ u.pos < 0/\AheadP f d k u.blk u.pos))
def FaultR (f : FuncD) (b e : Int) : Prop :=
  (∃ c : Nat, c < f.blocks.length ∧ ¬ Way (toB f) (-1) c ∧ (∀ d, d < c → Way (toB f) (-1) d) ∧ b = c ∧ e = 4) ∨
  ((∀ d, d < f.blocks.length → Way (toB f) (-1) d) ∧
    ((∃ (c : Nat) (x : BlockD), f.blocks[c]? = some x ∧ x.phis.all (phiFits (natI (predN f f.blocks.length 0 c))) = false ∧ (∀ (d : Nat) (y : BlockD), d < c → f.blocks[d]? = some y → y.phis.all (phiFits (natI (predN f f.blocks.length 0 d))) = true) ∧ b = c ∧ e = 5) ∨
     ((∀ (d : Nat) (y : BlockD), f.blocks[d]? = some y → y.phis.all (phiFits (natI (predN f f.blocks.length 0 d))) = true) ∧
      ((∃ (i : Nat) (u : UseD), (uxF f)[i]? = some u ∧ ¬ UseOk f u ∧ (∀ v ∈ (uxF f).take i, UseOk f v) ∧ b = u.blk ∧ e = 6) ∨
       ((∀ v ∈ uxF f, UseOk f v) ∧ b = 0 ∧ e = 0)))))
end Go.Proofs.Ytblgdccoeecodaa
namespace Go.Proofs.Ytblgdccoeecodaa
set_option linter.unusedSimpArgs false
set_option linter.unusedVariables false
open Go.RowKit
def SCheckR (f:FuncD) (w:World) (e:Ending) (w' : World):Prop :=
 ∃ b g:Int,e = .returned (.tuple #[.int .i64 b,.int .i64 g])/\(checkF f ≠ 0 -> b=0/\g=checkF f)/\(checkF f=0 -> FaultR f b g)/\Below w.heap.size w w'
end Go.Proofs.Ytblgdccoeecodaa
