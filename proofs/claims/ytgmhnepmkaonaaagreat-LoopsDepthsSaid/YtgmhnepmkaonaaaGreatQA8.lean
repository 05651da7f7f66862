/- Part 8. -/
import Derived.Test.YtgmhnepmkaonaaaGreatQA7
import Derived.Test.YtgmhnepmkaonaaaGreatQA4
import Derived.Test.YtgmhnepmkaonaaaGreatQA5
namespace Go.Proofs.YtgmhnepmkaonaaaGreat
set_option maxHeartbeats 3200000
set_option linter.unusedSimpArgs false
set_option linter.unusedVariables false
open Go.RowKit
def toBad (nb:Nat) (b:Int):Bool := !numB nb b || b == 0
theorem toBad_all (nb:Nat) (l:List Int):(!(l.any (toBad nb)))=l.all fun b=>decide (1 <= b) && decide (b < (nb:Int)):=by
 rw [List.not_any_eq_all_not]
 congr 1
 funext b
 unfold toBad numB
 rw [Bool.eq_iff_iff]
 simp only [Bool.not_or,Bool.not_not,Bool.and_eq_true,decide_eq_true_eq,Bool.not_eq_true',beq_eq_false_iff_ne,ne_eq]
 omega
theorem endAsk {w:World} {bc bb:Nat} {vp:Value} {ab:Option Addr} {nb cb:Nat} {ar ce:Int} {bm:Nat} (hb:Box w bc (chk vp (.slice ab nb cb) ar ce bm)) (hc:Box w bb #[.pointer (some ⟨bc,0,none⟩)]) (xs:List Int) :
  Asks 189 #[.pointer (some ⟨bb,0,none⟩)] w xs (toBad nb):=by
 intro W x hW _
 show Calls Tryz.prog 189 #[.int .i64 x,.pointer (some ⟨bb,0,none⟩)] W _
 have HB:=hd (hb.later hW)
 have h0:=(hc.later hW).at 0 rfl
 clear hb hc hW
 cases h1:numB nb x <;> cases h2:(x == 0)
 all_goals
  have H1:=hd h1
  have HR:Hid (toBad nb x=_):=hd (by unfold toBad;rw [h1,h2])
  clear h1
  go_enter Tryz.func189,Tryz.ntmps189
  go_wp2_with (go_at_call 187;refine (chkBlk HB.out x _ H1.out).mono ?_;rintro e w1 ⟨rfl,rfl⟩)
  go_ret
  exact ⟨by rw [HR.out];rfl,Below.refl _ _⟩
theorem endEnters:Enters Tryz.prog 189:=enters_of Tryz.func189 (by kernel_rfl) rfl
def endMap:List (Int × Value):=[(1,.int .i64 1),(2,.int .i64 2),(3,.int .i64 0),(4,.int .i64 0)]
theorem endMap_is:mput (mput (mput (mput [] 1 (.int .i64 1)) 2 (.int .i64 2)) 3 (.int .i64 0)) 4 (.int .i64 0)=endMap:=by kernel_rfl
theorem chkEnd1 {w:World} {bc bm:Nat} {vp:Value} {ab:Option Addr} {nb cb:Nat} {ar ce:Int} {val N:Int} {to:List Int} {n:Nat} {at_:Option Addr} {ct:Nat}
  (hb:Box w bc (chk vp (.slice ab nb cb) ar ce bm)) (hn:n=to.length) (hs:Ints w (.slice at_ n ct) to) :
  Calls Tryz.prog 168 #[.pointer (some ⟨bc,0,none⟩),.agg #[.int .i64 1,.int .i64 val,.slice at_ n ct,.int .i64 N]] w fun e w'=>e = .returned (.bool (endOk nb ⟨1,val,to,N⟩))/\Below w.heap.size w w':=by
 have HBC:=hd hb
 have HS:=hd hs
 have HN:=hd hn
 obtain ⟨r,hr⟩ : ∃ r,r=endOk nb ⟨1,val,to,N⟩:=⟨_,rfl⟩
 have HR:Hid (r=((to.all fun b=>decide (1 <= b) && decide (b < (nb:Int))) && (n == 1 && val == -1 && N == 0))):=hd (by rw [hr,hn];unfold endOk;simp)
 rw [<-hr]
 clear hb hs hn hr
 have hmm:=@run_makeMap Tryz.prog
 go_enter Tryz.func168,Tryz.ntmps168
 go_upto_region 1 with (fail)
 have B2:Hid (Box ((w.alloc (.cells #[.pointer (some ⟨bc,0,none⟩)] 177)).alloc (.cells #[.int .i64 1,.int .i64 val,.slice at_ n ct,.int .i64 N] 73)) (w.heap.size) #[.pointer (some ⟨bc,0,none⟩)]):=hd (by simpa using ((Box.new w #[.pointer (some ⟨bc,0,none⟩)] 177).alloc _))
 have B3:Hid (Box ((w.alloc (.cells #[.pointer (some ⟨bc,0,none⟩)] 177)).alloc (.cells #[.int .i64 1,.int .i64 val,.slice at_ n ct,.int .i64 N] 73)) (w.heap.size+1) #[.int .i64 1,.int .i64 val,.slice at_ n ct,.int .i64 N]):=hd (by simpa using (Box.new (w.alloc (.cells #[.pointer (some ⟨bc,0,none⟩)] 177)) #[.int .i64 1,.int .i64 val,.slice at_ n ct,.int .i64 N] 73))
 have HW:Hid (Below w.heap.size w ((w.alloc (.cells #[.pointer (some ⟨bc,0,none⟩)] 177)).alloc (.cells #[.int .i64 1,.int .i64 val,.slice at_ n ct,.int .i64 N] 73))):=hd (((Below.refl _ _).alloc (Nat.le_refl _) _).alloc (by simp) _)
 generalize ((w.alloc (.cells #[.pointer (some ⟨bc,0,none⟩)] 177)).alloc (.cells #[.int .i64 1,.int .i64 val,.slice at_ n ct,.int .i64 N] 73))=wv at *
 obtain ⟨lB2,cB2,fB2⟩:=B2.out
 obtain ⟨lB3,cB3,fB3⟩:=B3.out
 have HI:=hd (IMap.new wv)
 have HTU:=hd (Turn.refl [wv.heap.size] (wv.alloc (.map #[] 0)))
 have HLV:=hd HW.out.size
 have HL3:=hd B3.out.lt
 have HL2:=hd B2.out.lt
 clear lB2 cB2 fB2 lB3 cB3 fB3
 go_upto_region 2 with (with_reducible refine wpList_put (q:=.i64) (b:=wv.heap.size) rfl _ _ _ _ (.inr rfl) Tryz.underlying98 Tryz.underlying3 rfl HI.out rfl ?_;intro w2 hm2 _ ht2;replace HI:=hd hm2;replace HTU:=hd (HTU.out.trans ht2);clear hm2 ht2)
 clear hmm
 replace HI:Hid (IMap w2 wv.heap.size endMap):=hd (by rw [<-endMap_is];exact HI.out)
 have hA0:Below wv.heap.size wv (wv.alloc (.map #[] 0)):=(Below.refl _ _).alloc (Nat.le_refl _) _
 have hb2:Below wv.heap.size wv w2:=hA0.trans (HTU.out.below (by simp) (fun x hx=>by simp at hx;omega))
 clear HTU hA0
 obtain ⟨lB2,cB2,fB2⟩:=B2.out
 obtain ⟨lB3,cB3,fB3⟩:=B3.out
 clear lB2 cB2 fB2 lB3 cB3 fB3
 replace B2:=hd (B2.out.later hb2)
 replace B3:=hd (B3.out.later hb2)
 replace HW:=hd (HW.out.trans (hb2.mono HW.out.size))
 clear hb2
 obtain ⟨lB2,cB2,fB2⟩:=B2.out
 obtain ⟨lB3,cB3,fB3⟩:=B3.out
 have HBR:=hd (HBC.out.later HW.out)
 have HSR:=hd (HS.out.below HW.out)
 have HMG:Hid (mget endMap 1=some (.int .i64 1)):=hd (by kernel_rfl)
 cases hN0:decide (N < 0) <;> cases hN1:decide (0 < N) <;> cases hv:(val != -1) <;> cases hl:((n:Int) != 1)
 all_goals
  have H0:=hd hN0
  have H1:=hd hN1
  have HV:=hd hv
  have HL:=hd hl
  go_wp2_with (first
   | (at_lookup;refine wpList_look (q:=.i64) (z:=.int .i64 0) (b:=wv.heap.size) (mm:=endMap) (y:=1) rfl _ _ _ rfl Tryz.underlying98 Tryz.underlying3 (zeroInt _) rfl HI.out rfl ?_;rw [HMG.out])
   | (go_at_call 74;refine (containsFunc HSR.out _ _ (toBad nb) endEnters (endAsk HBR.out B2.out _)).mono ?_;rintro e w4 ⟨rfl,hb4⟩;have HB4:=hd (HW.out.trans (hb4.mono HW.out.size));clear hb4))
  go_ret
  have e1:=H0.out
  have e2:=H1.out
  have e3:(val == -1) = !(val != -1):=by simp [bne]
  have e5:(n == 1) = !((n:Int) != 1):=by rw [show (n == 1)=((n:Int) == 1) by (rw [Bool.eq_iff_iff];simp;try omega)];simp [bne]
  rw [HV.out] at e3
  rw [HL.out] at e5
  first
   | exact ⟨by rw [HR.out,toBad_all,e5];(try rw [e3]);simp at e1 e2 ⊢;try omega,HB4.out⟩
   | exact ⟨by rw [HR.out,e5];(try rw [e3]);simp at e1 e2 ⊢;try omega,HW.out⟩
theorem chkEnd2 {w:World} {bc bm:Nat} {vp:Value} {ab:Option Addr} {nb cb:Nat} {ar ce:Int} {val N:Int} {to:List Int} {n:Nat} {at_:Option Addr} {ct:Nat}
  (hb:Box w bc (chk vp (.slice ab nb cb) ar ce bm)) (hn:n=to.length) (hs:Ints w (.slice at_ n ct) to) :
  Calls Tryz.prog 168 #[.pointer (some ⟨bc,0,none⟩),.agg #[.int .i64 2,.int .i64 val,.slice at_ n ct,.int .i64 N]] w fun e w'=>e = .returned (.bool (endOk nb ⟨2,val,to,N⟩))/\Below w.heap.size w w':=by
 have HBC:=hd hb
 have HS:=hd hs
 have HN:=hd hn
 obtain ⟨r,hr⟩ : ∃ r,r=endOk nb ⟨2,val,to,N⟩:=⟨_,rfl⟩
 have HR:Hid (r=((to.all fun b=>decide (1 <= b) && decide (b < (nb:Int))) && (n == 2 && N == 0))):=hd (by rw [hr,hn];unfold endOk;simp)
 rw [<-hr]
 clear hb hs hn hr
 have hmm:=@run_makeMap Tryz.prog
 go_enter Tryz.func168,Tryz.ntmps168
 go_upto_region 1 with (fail)
 have B2:Hid (Box ((w.alloc (.cells #[.pointer (some ⟨bc,0,none⟩)] 177)).alloc (.cells #[.int .i64 2,.int .i64 val,.slice at_ n ct,.int .i64 N] 73)) (w.heap.size) #[.pointer (some ⟨bc,0,none⟩)]):=hd (by simpa using ((Box.new w #[.pointer (some ⟨bc,0,none⟩)] 177).alloc _))
 have B3:Hid (Box ((w.alloc (.cells #[.pointer (some ⟨bc,0,none⟩)] 177)).alloc (.cells #[.int .i64 2,.int .i64 val,.slice at_ n ct,.int .i64 N] 73)) (w.heap.size+1) #[.int .i64 2,.int .i64 val,.slice at_ n ct,.int .i64 N]):=hd (by simpa using (Box.new (w.alloc (.cells #[.pointer (some ⟨bc,0,none⟩)] 177)) #[.int .i64 2,.int .i64 val,.slice at_ n ct,.int .i64 N] 73))
 have HW:Hid (Below w.heap.size w ((w.alloc (.cells #[.pointer (some ⟨bc,0,none⟩)] 177)).alloc (.cells #[.int .i64 2,.int .i64 val,.slice at_ n ct,.int .i64 N] 73))):=hd (((Below.refl _ _).alloc (Nat.le_refl _) _).alloc (by simp) _)
 generalize ((w.alloc (.cells #[.pointer (some ⟨bc,0,none⟩)] 177)).alloc (.cells #[.int .i64 2,.int .i64 val,.slice at_ n ct,.int .i64 N] 73))=wv at *
 obtain ⟨lB2,cB2,fB2⟩:=B2.out
 obtain ⟨lB3,cB3,fB3⟩:=B3.out
 have HI:=hd (IMap.new wv)
 have HTU:=hd (Turn.refl [wv.heap.size] (wv.alloc (.map #[] 0)))
 have HLV:=hd HW.out.size
 have HL3:=hd B3.out.lt
 have HL2:=hd B2.out.lt
 clear lB2 cB2 fB2 lB3 cB3 fB3
 go_upto_region 2 with (with_reducible refine wpList_put (q:=.i64) (b:=wv.heap.size) rfl _ _ _ _ (.inr rfl) Tryz.underlying98 Tryz.underlying3 rfl HI.out rfl ?_;intro w2 hm2 _ ht2;replace HI:=hd hm2;replace HTU:=hd (HTU.out.trans ht2);clear hm2 ht2)
 clear hmm
 replace HI:Hid (IMap w2 wv.heap.size endMap):=hd (by rw [<-endMap_is];exact HI.out)
 have hA0:Below wv.heap.size wv (wv.alloc (.map #[] 0)):=(Below.refl _ _).alloc (Nat.le_refl _) _
 have hb2:Below wv.heap.size wv w2:=hA0.trans (HTU.out.below (by simp) (fun x hx=>by simp at hx;omega))
 clear HTU hA0
 obtain ⟨lB2,cB2,fB2⟩:=B2.out
 obtain ⟨lB3,cB3,fB3⟩:=B3.out
 clear lB2 cB2 fB2 lB3 cB3 fB3
 replace B2:=hd (B2.out.later hb2)
 replace B3:=hd (B3.out.later hb2)
 replace HW:=hd (HW.out.trans (hb2.mono HW.out.size))
 clear hb2
 obtain ⟨lB2,cB2,fB2⟩:=B2.out
 obtain ⟨lB3,cB3,fB3⟩:=B3.out
 have HBR:=hd (HBC.out.later HW.out)
 have HSR:=hd (HS.out.below HW.out)
 have HMG:Hid (mget endMap 2=some (.int .i64 2)):=hd (by kernel_rfl)
 cases hN0:decide (N < 0) <;> cases hN1:decide (0 < N) <;> cases hv:(val != -1) <;> cases hl:((n:Int) != 2)
 all_goals
  have H0:=hd hN0
  have H1:=hd hN1
  have HV:=hd hv
  have HL:=hd hl
  go_wp2_with (first
   | (at_lookup;refine wpList_look (q:=.i64) (z:=.int .i64 0) (b:=wv.heap.size) (mm:=endMap) (y:=2) rfl _ _ _ rfl Tryz.underlying98 Tryz.underlying3 (zeroInt _) rfl HI.out rfl ?_;rw [HMG.out])
   | (go_at_call 74;refine (containsFunc HSR.out _ _ (toBad nb) endEnters (endAsk HBR.out B2.out _)).mono ?_;rintro e w4 ⟨rfl,hb4⟩;have HB4:=hd (HW.out.trans (hb4.mono HW.out.size));clear hb4))
  go_ret
  have e1:=H0.out
  have e2:=H1.out
  have e3:(val == -1) = !(val != -1):=by simp [bne]
  have e5:(n == 2) = !((n:Int) != 2):=by rw [show (n == 2)=((n:Int) == 2) by (rw [Bool.eq_iff_iff];simp;try omega)];simp [bne]
  rw [HV.out] at e3
  rw [HL.out] at e5
  first
   | exact ⟨by rw [HR.out,toBad_all,e5];(try rw [e3]);simp at e1 e2 ⊢;try omega,HB4.out⟩
   | exact ⟨by rw [HR.out,e5];(try rw [e3]);simp at e1 e2 ⊢;try omega,HW.out⟩
theorem chkEnd3 {w:World} {bc bm:Nat} {vp:Value} {ab:Option Addr} {nb cb:Nat} {ar ce:Int} {val N:Int} {to:List Int} {n:Nat} {at_:Option Addr} {ct:Nat}
  (hb:Box w bc (chk vp (.slice ab nb cb) ar ce bm)) (hn:n=to.length) (hs:Ints w (.slice at_ n ct) to) :
  Calls Tryz.prog 168 #[.pointer (some ⟨bc,0,none⟩),.agg #[.int .i64 3,.int .i64 val,.slice at_ n ct,.int .i64 N]] w fun e w'=>e = .returned (.bool (endOk nb ⟨3,val,to,N⟩))/\Below w.heap.size w w':=by
 have HBC:=hd hb
 have HS:=hd hs
 have HN:=hd hn
 obtain ⟨r,hr⟩ : ∃ r,r=endOk nb ⟨3,val,to,N⟩:=⟨_,rfl⟩
 have HR:Hid (r=((to.all fun b=>decide (1 <= b) && decide (b < (nb:Int))) && (n == 0 && N == 0))):=hd (by rw [hr,hn];unfold endOk;simp)
 rw [<-hr]
 clear hb hs hn hr
 have hmm:=@run_makeMap Tryz.prog
 go_enter Tryz.func168,Tryz.ntmps168
 go_upto_region 1 with (fail)
 have B2:Hid (Box ((w.alloc (.cells #[.pointer (some ⟨bc,0,none⟩)] 177)).alloc (.cells #[.int .i64 3,.int .i64 val,.slice at_ n ct,.int .i64 N] 73)) (w.heap.size) #[.pointer (some ⟨bc,0,none⟩)]):=hd (by simpa using ((Box.new w #[.pointer (some ⟨bc,0,none⟩)] 177).alloc _))
 have B3:Hid (Box ((w.alloc (.cells #[.pointer (some ⟨bc,0,none⟩)] 177)).alloc (.cells #[.int .i64 3,.int .i64 val,.slice at_ n ct,.int .i64 N] 73)) (w.heap.size+1) #[.int .i64 3,.int .i64 val,.slice at_ n ct,.int .i64 N]):=hd (by simpa using (Box.new (w.alloc (.cells #[.pointer (some ⟨bc,0,none⟩)] 177)) #[.int .i64 3,.int .i64 val,.slice at_ n ct,.int .i64 N] 73))
 have HW:Hid (Below w.heap.size w ((w.alloc (.cells #[.pointer (some ⟨bc,0,none⟩)] 177)).alloc (.cells #[.int .i64 3,.int .i64 val,.slice at_ n ct,.int .i64 N] 73))):=hd (((Below.refl _ _).alloc (Nat.le_refl _) _).alloc (by simp) _)
 generalize ((w.alloc (.cells #[.pointer (some ⟨bc,0,none⟩)] 177)).alloc (.cells #[.int .i64 3,.int .i64 val,.slice at_ n ct,.int .i64 N] 73))=wv at *
 obtain ⟨lB2,cB2,fB2⟩:=B2.out
 obtain ⟨lB3,cB3,fB3⟩:=B3.out
 have HI:=hd (IMap.new wv)
 have HTU:=hd (Turn.refl [wv.heap.size] (wv.alloc (.map #[] 0)))
 have HLV:=hd HW.out.size
 have HL3:=hd B3.out.lt
 have HL2:=hd B2.out.lt
 clear lB2 cB2 fB2 lB3 cB3 fB3
 go_upto_region 2 with (with_reducible refine wpList_put (q:=.i64) (b:=wv.heap.size) rfl _ _ _ _ (.inr rfl) Tryz.underlying98 Tryz.underlying3 rfl HI.out rfl ?_;intro w2 hm2 _ ht2;replace HI:=hd hm2;replace HTU:=hd (HTU.out.trans ht2);clear hm2 ht2)
 clear hmm
 replace HI:Hid (IMap w2 wv.heap.size endMap):=hd (by rw [<-endMap_is];exact HI.out)
 have hA0:Below wv.heap.size wv (wv.alloc (.map #[] 0)):=(Below.refl _ _).alloc (Nat.le_refl _) _
 have hb2:Below wv.heap.size wv w2:=hA0.trans (HTU.out.below (by simp) (fun x hx=>by simp at hx;omega))
 clear HTU hA0
 obtain ⟨lB2,cB2,fB2⟩:=B2.out
 obtain ⟨lB3,cB3,fB3⟩:=B3.out
 clear lB2 cB2 fB2 lB3 cB3 fB3
 replace B2:=hd (B2.out.later hb2)
 replace B3:=hd (B3.out.later hb2)
 replace HW:=hd (HW.out.trans (hb2.mono HW.out.size))
 clear hb2
 obtain ⟨lB2,cB2,fB2⟩:=B2.out
 obtain ⟨lB3,cB3,fB3⟩:=B3.out
 have HBR:=hd (HBC.out.later HW.out)
 have HSR:=hd (HS.out.below HW.out)
 have HMG:Hid (mget endMap 3=some (.int .i64 0)):=hd (by kernel_rfl)
 cases hN0:decide (N < 0) <;> cases hN1:decide (0 < N) <;> cases hv:(val != -1) <;> cases hl:((n:Int) != 0)
 all_goals
  have H0:=hd hN0
  have H1:=hd hN1
  have HV:=hd hv
  have HL:=hd hl
  go_wp2_with (first
   | (at_lookup;refine wpList_look (q:=.i64) (z:=.int .i64 0) (b:=wv.heap.size) (mm:=endMap) (y:=3) rfl _ _ _ rfl Tryz.underlying98 Tryz.underlying3 (zeroInt _) rfl HI.out rfl ?_;rw [HMG.out])
   | (go_at_call 74;refine (containsFunc HSR.out _ _ (toBad nb) endEnters (endAsk HBR.out B2.out _)).mono ?_;rintro e w4 ⟨rfl,hb4⟩;have HB4:=hd (HW.out.trans (hb4.mono HW.out.size));clear hb4))
  go_ret
  have e1:=H0.out
  have e2:=H1.out
  have e3:(val == -1) = !(val != -1):=by simp [bne]
  have e5:(n == 0) = !((n:Int) != 0):=by rw [show (n == 0)=((n:Int) == 0) by (rw [Bool.eq_iff_iff];simp;try omega)];simp [bne]
  rw [HV.out] at e3
  rw [HL.out] at e5
  first
   | exact ⟨by rw [HR.out,toBad_all,e5];(try rw [e3]);simp at e1 e2 ⊢;try omega,HB4.out⟩
   | exact ⟨by rw [HR.out,e5];(try rw [e3]);simp at e1 e2 ⊢;try omega,HW.out⟩
theorem chkEnd4 {w:World} {bc bm:Nat} {vp:Value} {ab:Option Addr} {nb cb:Nat} {ar ce:Int} {val N:Int} {to:List Int} {n:Nat} {at_:Option Addr} {ct:Nat}
  (hb:Box w bc (chk vp (.slice ab nb cb) ar ce bm)) (hn:n=to.length) (hs:Ints w (.slice at_ n ct) to) :
  Calls Tryz.prog 168 #[.pointer (some ⟨bc,0,none⟩),.agg #[.int .i64 4,.int .i64 val,.slice at_ n ct,.int .i64 N]] w fun e w'=>e = .returned (.bool (endOk nb ⟨4,val,to,N⟩))/\Below w.heap.size w w':=by
 have HBC:=hd hb
 have HS:=hd hs
 have HN:=hd hn
 obtain ⟨r,hr⟩ : ∃ r,r=endOk nb ⟨4,val,to,N⟩:=⟨_,rfl⟩
 have HR:Hid (r=((to.all fun b=>decide (1 <= b) && decide (b < (nb:Int))) && (n == 0 && val == -1 && decide (0 <= N)))):=hd (by rw [hr,hn];unfold endOk;simp)
 rw [<-hr]
 clear hb hs hn hr
 have hmm:=@run_makeMap Tryz.prog
 go_enter Tryz.func168,Tryz.ntmps168
 go_upto_region 1 with (fail)
 have B2:Hid (Box ((w.alloc (.cells #[.pointer (some ⟨bc,0,none⟩)] 177)).alloc (.cells #[.int .i64 4,.int .i64 val,.slice at_ n ct,.int .i64 N] 73)) (w.heap.size) #[.pointer (some ⟨bc,0,none⟩)]):=hd (by simpa using ((Box.new w #[.pointer (some ⟨bc,0,none⟩)] 177).alloc _))
 have B3:Hid (Box ((w.alloc (.cells #[.pointer (some ⟨bc,0,none⟩)] 177)).alloc (.cells #[.int .i64 4,.int .i64 val,.slice at_ n ct,.int .i64 N] 73)) (w.heap.size+1) #[.int .i64 4,.int .i64 val,.slice at_ n ct,.int .i64 N]):=hd (by simpa using (Box.new (w.alloc (.cells #[.pointer (some ⟨bc,0,none⟩)] 177)) #[.int .i64 4,.int .i64 val,.slice at_ n ct,.int .i64 N] 73))
 have HW:Hid (Below w.heap.size w ((w.alloc (.cells #[.pointer (some ⟨bc,0,none⟩)] 177)).alloc (.cells #[.int .i64 4,.int .i64 val,.slice at_ n ct,.int .i64 N] 73))):=hd (((Below.refl _ _).alloc (Nat.le_refl _) _).alloc (by simp) _)
 generalize ((w.alloc (.cells #[.pointer (some ⟨bc,0,none⟩)] 177)).alloc (.cells #[.int .i64 4,.int .i64 val,.slice at_ n ct,.int .i64 N] 73))=wv at *
 obtain ⟨lB2,cB2,fB2⟩:=B2.out
 obtain ⟨lB3,cB3,fB3⟩:=B3.out
 have HI:=hd (IMap.new wv)
 have HTU:=hd (Turn.refl [wv.heap.size] (wv.alloc (.map #[] 0)))
 have HLV:=hd HW.out.size
 have HL3:=hd B3.out.lt
 have HL2:=hd B2.out.lt
 clear lB2 cB2 fB2 lB3 cB3 fB3
 go_upto_region 2 with (with_reducible refine wpList_put (q:=.i64) (b:=wv.heap.size) rfl _ _ _ _ (.inr rfl) Tryz.underlying98 Tryz.underlying3 rfl HI.out rfl ?_;intro w2 hm2 _ ht2;replace HI:=hd hm2;replace HTU:=hd (HTU.out.trans ht2);clear hm2 ht2)
 clear hmm
 replace HI:Hid (IMap w2 wv.heap.size endMap):=hd (by rw [<-endMap_is];exact HI.out)
 have hA0:Below wv.heap.size wv (wv.alloc (.map #[] 0)):=(Below.refl _ _).alloc (Nat.le_refl _) _
 have hb2:Below wv.heap.size wv w2:=hA0.trans (HTU.out.below (by simp) (fun x hx=>by simp at hx;omega))
 clear HTU hA0
 obtain ⟨lB2,cB2,fB2⟩:=B2.out
 obtain ⟨lB3,cB3,fB3⟩:=B3.out
 clear lB2 cB2 fB2 lB3 cB3 fB3
 replace B2:=hd (B2.out.later hb2)
 replace B3:=hd (B3.out.later hb2)
 replace HW:=hd (HW.out.trans (hb2.mono HW.out.size))
 clear hb2
 obtain ⟨lB2,cB2,fB2⟩:=B2.out
 obtain ⟨lB3,cB3,fB3⟩:=B3.out
 have HBR:=hd (HBC.out.later HW.out)
 have HSR:=hd (HS.out.below HW.out)
 have HMG:Hid (mget endMap 4=some (.int .i64 0)):=hd (by kernel_rfl)
 cases hN0:decide (N < 0) <;> cases hN1:decide (0 < N) <;> cases hv:(val != -1) <;> cases hl:((n:Int) != 0)
 all_goals
  have H0:=hd hN0
  have H1:=hd hN1
  have HV:=hd hv
  have HL:=hd hl
  go_wp2_with (first
   | (at_lookup;refine wpList_look (q:=.i64) (z:=.int .i64 0) (b:=wv.heap.size) (mm:=endMap) (y:=4) rfl _ _ _ rfl Tryz.underlying98 Tryz.underlying3 (zeroInt _) rfl HI.out rfl ?_;rw [HMG.out])
   | (go_at_call 74;refine (containsFunc HSR.out _ _ (toBad nb) endEnters (endAsk HBR.out B2.out _)).mono ?_;rintro e w4 ⟨rfl,hb4⟩;have HB4:=hd (HW.out.trans (hb4.mono HW.out.size));clear hb4))
  go_ret
  have e1:=H0.out
  have e2:=H1.out
  have e3:(val == -1) = !(val != -1):=by simp [bne]
  have e5:(n == 0) = !((n:Int) != 0):=by rw [show (n == 0)=((n:Int) == 0) by (rw [Bool.eq_iff_iff];simp;try omega)];simp [bne]
  rw [HV.out] at e3
  rw [HL.out] at e5
  first
   | exact ⟨by rw [HR.out,toBad_all,e5];(try rw [e3]);simp at e1 e2 ⊢;try omega,HB4.out⟩
   | exact ⟨by rw [HR.out,e5];(try rw [e3]);simp at e1 e2 ⊢;try omega,HW.out⟩
theorem chkEndNo {w:World} {bc:Nat} {op val N:Int} {n:Nat} {at_:Option Addr} {ct:Nat} (hno:op ≠ 1/\op ≠ 2/\op ≠ 3/\op ≠ 4) :
  Calls Tryz.prog 168 #[.pointer (some ⟨bc,0,none⟩),.agg #[.int .i64 op,.int .i64 val,.slice at_ n ct,.int .i64 N]] w fun e w'=>e = .returned (.bool false)/\Below w.heap.size w w':=by
 have HMG:Hid (mget endMap op=none):=hd (by rw [mget_none];unfold endMap;simp;omega)
 clear hno
 have hmm:=@run_makeMap Tryz.prog
 go_enter Tryz.func168,Tryz.ntmps168
 go_upto_region 1 with (fail)
 have B2:Hid (Box ((w.alloc (.cells #[.pointer (some ⟨bc,0,none⟩)] 177)).alloc (.cells #[.int .i64 op,.int .i64 val,.slice at_ n ct,.int .i64 N] 73)) (w.heap.size) #[.pointer (some ⟨bc,0,none⟩)]):=hd (by simpa using ((Box.new w #[.pointer (some ⟨bc,0,none⟩)] 177).alloc _))
 have B3:Hid (Box ((w.alloc (.cells #[.pointer (some ⟨bc,0,none⟩)] 177)).alloc (.cells #[.int .i64 op,.int .i64 val,.slice at_ n ct,.int .i64 N] 73)) (w.heap.size+1) #[.int .i64 op,.int .i64 val,.slice at_ n ct,.int .i64 N]):=hd (by simpa using (Box.new (w.alloc (.cells #[.pointer (some ⟨bc,0,none⟩)] 177)) #[.int .i64 op,.int .i64 val,.slice at_ n ct,.int .i64 N] 73))
 have HW:Hid (Below w.heap.size w ((w.alloc (.cells #[.pointer (some ⟨bc,0,none⟩)] 177)).alloc (.cells #[.int .i64 op,.int .i64 val,.slice at_ n ct,.int .i64 N] 73))):=hd (((Below.refl _ _).alloc (Nat.le_refl _) _).alloc (by simp) _)
 generalize ((w.alloc (.cells #[.pointer (some ⟨bc,0,none⟩)] 177)).alloc (.cells #[.int .i64 op,.int .i64 val,.slice at_ n ct,.int .i64 N] 73))=wv at *
 obtain ⟨lB2,cB2,fB2⟩:=B2.out
 obtain ⟨lB3,cB3,fB3⟩:=B3.out
 have HI:=hd (IMap.new wv)
 have HTU:=hd (Turn.refl [wv.heap.size] (wv.alloc (.map #[] 0)))
 have HLV:=hd HW.out.size
 have HL3:=hd B3.out.lt
 have HL2:=hd B2.out.lt
 clear lB2 cB2 fB2 lB3 cB3 fB3
 go_upto_region 2 with (with_reducible refine wpList_put (q:=.i64) (b:=wv.heap.size) rfl _ _ _ _ (.inr rfl) Tryz.underlying98 Tryz.underlying3 rfl HI.out rfl ?_;intro w2 hm2 _ ht2;replace HI:=hd hm2;replace HTU:=hd (HTU.out.trans ht2);clear hm2 ht2)
 clear hmm
 replace HI:Hid (IMap w2 wv.heap.size endMap):=hd (by rw [<-endMap_is];exact HI.out)
 have hA0:Below wv.heap.size wv (wv.alloc (.map #[] 0)):=(Below.refl _ _).alloc (Nat.le_refl _) _
 have hb2:Below wv.heap.size wv w2:=hA0.trans (HTU.out.below (by simp) (fun x hx=>by simp at hx;omega))
 clear HTU hA0
 obtain ⟨lB2,cB2,fB2⟩:=B2.out
 obtain ⟨lB3,cB3,fB3⟩:=B3.out
 clear lB2 cB2 fB2 lB3 cB3 fB3
 replace B2:=hd (B2.out.later hb2)
 replace B3:=hd (B3.out.later hb2)
 replace HW:=hd (HW.out.trans (hb2.mono HW.out.size))
 clear hb2
 obtain ⟨lB2,cB2,fB2⟩:=B2.out
 obtain ⟨lB3,cB3,fB3⟩:=B3.out
 go_wp2_with (at_lookup;refine wpList_look (q:=.i64) (z:=.int .i64 0) (b:=wv.heap.size) (mm:=endMap) (y:=op) rfl _ _ _ rfl Tryz.underlying98 Tryz.underlying3 (zeroInt _) rfl HI.out rfl ?_;rw [HMG.out])
 go_ret
 exact ⟨rfl,HW.out⟩
theorem chkEnd {w:World} {bc bm:Nat} {vp:Value} {ab:Option Addr} {nb cb:Nat} {ar ce:Int} {t:TermD} {at_:Option Addr} {ct:Nat}
  (hb:Box w bc (chk vp (.slice ab nb cb) ar ce bm)) (hs:Ints w (.slice at_ t.to.length ct) t.to) :
  Calls Tryz.prog 168 #[.pointer (some ⟨bc,0,none⟩),.agg (termA t at_ ct)] w fun e w'=>e = .returned (.bool (endOk nb t))/\Below w.heap.size w w':=by
 obtain ⟨op,val,to,N⟩:=t
 unfold termA
 by_cases h1:op=1
 ·subst h1;exact chkEnd1 hb rfl hs
 ·by_cases h2:op=2
  ·subst h2;exact chkEnd2 hb rfl hs
  ·by_cases h3:op=3
   ·subst h3;exact chkEnd3 hb rfl hs
   ·by_cases h4:op=4
    ·subst h4;exact chkEnd4 hb rfl hs
    ·refine (chkEndNo ⟨h1,h2,h3,h4⟩).mono fun e w' ⟨he,hw⟩=>⟨?_,hw⟩
     rw [he]
     have:endOk nb ⟨op,val,to,N⟩=false:=by
      unfold endOk
      simp [h1,h2,h3,h4]
     rw [this]
theorem shape17 {w:World}:Calls Tryz.prog 169 #[.int .i64 17] w (ShpR 17 w):=by
 go_enter Tryz.func169,Tryz.ntmps169
 go_upto_region 1 with (fail)
 have B2:Hid (Box (w.alloc (.cells #[.int .i64 0,.slice none 0 0,.int .i64 0] 230)) (w.heap.size) #[.int .i64 0,.slice none 0 0,.int .i64 0]):=hd (by simpa using (Box.new w #[.int .i64 0,.slice none 0 0,.int .i64 0] 230))
 have HW:Hid (Below w.heap.size w (w.alloc (.cells #[.int .i64 0,.slice none 0 0,.int .i64 0] 230))):=hd ((Below.refl _ _).alloc (Nat.le_refl _) _)
 generalize (w.alloc (.cells #[.int .i64 0,.slice none 0 0,.int .i64 0] 230))=wv at *
 obtain ⟨lB2,cB2,fB2⟩:=B2.out
 go_wp2_with fail
 refine (irSame 2 1 ⟨by decide,by decide⟩ (by decide)).mono ?_
 rintro e w1 ⟨u,rfl,hu,hb1⟩
 obtain ⟨ua,uc,rfl⟩:=hu.ints.form
 simp only [List.length_replicate] at hu ⊢
 have HU:=hd hu
 have HL:=hd lB2
 clear hu
 clear lB2 cB2 fB2
 replace B2:=hd (B2.out.later hb1)
 replace HW:=hd (HW.out.trans (hb1.mono HW.out.size))
 clear hb1
 obtain ⟨lB2,cB2,fB2⟩:=B2.out
 go_wp2_with fail
 refine (irSame 1 2 ⟨by decide,by decide⟩ (by decide)).mono ?_
 rintro e w2 ⟨u2,rfl,hu2,hb2⟩
 obtain ⟨ua2,uc2,rfl⟩:=hu2.ints.form
 simp only [List.length_replicate] at hu2 ⊢
 have HU2:=hd hu2
 clear hu2
 replace HU:=hd (HU.out.later hb2)
 clear lB2 cB2 fB2
 replace B2:=hd (B2.out.later hb2)
 replace HW:=hd (HW.out.trans (hb2.mono HW.out.size))
 clear hb2
 obtain ⟨lB2,cB2,fB2⟩:=B2.out
 have OL:Hid (Own w2 wv.heap.size [w.heap.size] 3 1 (.slice ua 1 uc) 1 [.int .i64 2]):=hd ⟨HU.out.own,fun g hg hm=>by
  have:=(HU.out.fresh g hg).1
  have:=HL.out
  simp at hm;omega⟩
 have HS:=hd HU.out.own
 have hsz:wv.heap.size <= w2.heap.size:=by
  rcases HU.out.own.2 with ⟨_,h⟩ | ⟨g,cap,cur,hv,hg,hh,_⟩
  ·simp at h
  ·have:=(Array.getElem?_eq_some_iff.1 hh).1;omega
 have HZ:=hd hsz
 clear hsz
 go_wp2_with (at_builtin;refine wpList_own rfl _ _ 22 3 rfl elInt rfl rfl OL.out HU2.out.ints.1 (oneCell_int _) (by unfold maxLen;simp) (by simp) HZ.out (by intro b hb;simp at hb;omega) ?_;intro v3 w3 hO3 hBs3 hb3;obtain ⟨a3,c3,rfl⟩:=hO3.form;simp only [List.length_replicate] at hO3 ⊢;have HO3:=hd hO3;have B3:=hd (hBs3 _ _ (by simp) B2.out);have HW3:=hd (HW.out.trans (hb3.mono (Nat.le_of_lt HL.out)));clear hO3 hBs3 hb3;obtain ⟨l3,c3',f3⟩:=B3.out;clear lB2 cB2 fB2)
 have HN:Hid (New 3 wv w3 (.slice a3 3 c3) [2,1,1]):=hd ⟨HO3.out.row,by simp,fun x hx=>by simp at hx;rcases hx with rfl | rfl | rfl <;> exact ⟨by decide,by decide⟩⟩
 exact bodyPost_ret (v:=.tuple #[.agg #[.int .i64 1,.slice a3 3 c3,.int .i64 0],.bool true]) (by simp [results,Tryz.results169,go_sem, *]) rfl
  ⟨_,rfl,(((HN.out.other _ (.inl HL.out)).other _ (.inl HL.out)).other _ (.inl HL.out)).from (Nat.le_of_lt HL.out),((HW3.out.setCell (by simp) _).setCell (by simp) _).setCell (by simp) _⟩
theorem shapeNo {w:World} {op:Int} (h:op < 1 \/ 25 < op):Calls Tryz.prog 169 #[.int .i64 op] w (ShpR op w):=by
 have HS:=hd (show shp op=none by unfold shp;repeat (rw [if_neg (by omega)]))
 have e1:(op == 1)=false:=by simp;omega
 have e2:(op == 2)=false:=by simp;omega
 have e13:(op == 13)=false:=by simp;omega
 have e14:(op == 14)=false:=by simp;omega
 have e15:(op == 15)=false:=by simp;omega
 have e16:(op == 16)=false:=by simp;omega
 have e17:(op == 17)=false:=by simp;omega
 have e18:(op == 18)=false:=by simp;omega
 have e19:(op == 19)=false:=by simp;omega
 have e21:(op == 21)=false:=by simp;omega
 have e20:(op == 20)=false:=by simp;omega
 have e22:(op == 22)=false:=by simp;omega
 have e23:(op == 23)=false:=by simp;omega
 have e24:(op == 24)=false:=by simp;omega
 have e25:(op == 25)=false:=by simp;omega
 have r1:(decide (3 <= op) && decide (op <= 12))=false:=by simp;omega
 have HR:Hid (decide (3 <= op)=false \/ (decide (3 <= op)=true/\decide (op <= 12)=false)):=hd (by simp;omega)
 clear h r1
 rcases HR.out with r1 | ⟨r1,r2⟩
 all_goals
  go_enter Tryz.func169,Tryz.ntmps169
  go_upto_region 1 with (fail)
  have B2:Hid (Box (w.alloc (.cells #[.int .i64 0,.slice none 0 0,.int .i64 0] 230)) (w.heap.size) #[.int .i64 0,.slice none 0 0,.int .i64 0]):=hd (by simpa using (Box.new w #[.int .i64 0,.slice none 0 0,.int .i64 0] 230))
  have HW:Hid (Below w.heap.size w (w.alloc (.cells #[.int .i64 0,.slice none 0 0,.int .i64 0] 230))):=hd ((Below.refl _ _).alloc (Nat.le_refl _) _)
  generalize (w.alloc (.cells #[.int .i64 0,.slice none 0 0,.int .i64 0] 230))=wv at *
  obtain ⟨lB2,cB2,fB2⟩:=B2.out
  go_wp2
  exact bodyPost_ret (v:=.tuple #[.agg #[.int .i64 0,.slice none 0 0,.int .i64 0],.bool false]) (by simp [results,Tryz.results169,go_sem, *]) rfl
   ⟨.slice none 0 0,by unfold shp0;rw [HS.out];rfl,by unfold shp0;rw [HS.out];exact New.nil,((HW.out.setCell (by simp) _).setCell (by simp) _).setCell (by simp) _⟩
theorem shapeOf {w:World} (op:Int):Calls Tryz.prog 169 #[.int .i64 op] w (ShpR op w):=by
 by_cases h:op < 1 \/ 25 < op
 ·exact shapeNo h
 ·obtain rfl | rfl | rfl | rfl | rfl | rfl | rfl | rfl | rfl | rfl | rfl | rfl | rfl | rfl | rfl | rfl | rfl | rfl | rfl | rfl | rfl | rfl | rfl | rfl | rfl:op=1 \/ op=2 \/ op=3 \/ op=4 \/ op=5 \/ op=6 \/ op=7 \/ op=8 \/ op=9 \/ op=10 \/ op=11 \/ op=12 \/ op=13 \/ op=14 \/ op=15 \/ op=16 \/ op=17 \/ op=18 \/ op=19 \/ op=20 \/ op=21 \/ op=22 \/ op=23 \/ op=24 \/ op=25:=by omega
  ·exact shape1
  ·exact shape2
  ·exact shape3
  ·exact shape4
  ·exact shape5
  ·exact shape6
  ·exact shape7
  ·exact shape8
  ·exact shape9
  ·exact shape10
  ·exact shape11
  ·exact shape12
  ·exact shape13
  ·exact shape14
  ·exact shape15
  ·exact shape16
  ·exact shape17
  ·exact shape18
  ·exact shape19
  ·exact shape20
  ·exact shape21
  ·exact shape22
  ·exact shape23
  ·exact shape24
  ·exact shape25
end Go.Proofs.YtgmhnepmkaonaaaGreat
