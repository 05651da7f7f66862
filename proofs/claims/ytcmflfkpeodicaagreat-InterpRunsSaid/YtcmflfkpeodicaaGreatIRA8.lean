/- Part 8. -/
import Derived.Test.YtcmflfkpeodicaaGreatIRA7
namespace Go.Proofs.YtcmflfkpeodicaaGreat
set_option maxHeartbeats 3200000
set_option linter.all false
open Go.RowKit
def qK (nb:Nat) (b:Int):Bool := !numB nb b || b == 0
theorem mO (nb:Nat) (l:List Int):(!(l.any (qK nb)))=l.all fun b=>decide (1 <= b) && decide (b < (nb:Int)):=by
 rw [List.not_any_eq_all_not]
 congr 1
 funext b
 unfold qK numB
 rw [cC]
 simp only [Bool.not_or,Bool.not_not,aN,decide_eq_true_eq,eA,beq_eq_false_iff_ne,ne_eq]
 omega
theorem uM {w:World} {bc bb:Nat} {vp:Value} {ab:Option Addr} {nb cb:Nat} {ar ce:Int} {bm:Nat} (hb:Box w bc (chk vp (.slice ab nb cb) ar ce bm)) (hc:Box w bb #[.pointer (some ⟨bc,0,none⟩)]) (xs:List Int) :
  Asks 216 #[.pointer (some ⟨bb,0,none⟩)] w xs (qK nb):=by
 intro W x hW _
 show Calls Tryz.prog 216 #[.int .i64 x,.pointer (some ⟨bb,0,none⟩)] W _
 have HB:=h! (hb.later hW)
 have h0:=(hc.later hW).at 0 rfl
 clear hb hc hW
 cases h1:numB nb x <;> cases h2:(x == 0)
 all_goals
  have H1:=h! h1
  have HR:Hid (qK nb x=_):=h! (by unfold qK;rw [h1,h2])
  clear h1
  go_enter Tryz.func216,Tryz.ntmps216
  go_wp2_with (go_at_call 214;refine (sL HB.out x _ H1.out).mono ?_;rintro e w1 ⟨rfl,rfl⟩)
  go_ret
  exact ⟨by rw [HR.out];rfl,Below.refl _ _⟩
theorem mP:Enters Tryz.prog 216:=enters_of Tryz.func216 (by kernel_rfl) rfl
def jH:List (Int × Value):=[(1,.int .i64 1),(2,.int .i64 2),(3,.int .i64 0),(4,.int .i64 0)]
theorem lC:mput (mput (mput (mput [] 1 (.int .i64 1)) 2 (.int .i64 2)) 3 (.int .i64 0)) 4 (.int .i64 0)=jH:=by kernel_rfl
theorem aDY {w:World} {bc bm:Nat} {vp:Value} {ab:Option Addr} {nb cb:Nat} {ar ce:Int} {val N:Int} {to:List Int} {n:Nat} {at_:Option Addr} {ct:Nat}
  (hb:Box w bc (chk vp (.slice ab nb cb) ar ce bm)) (hn:n=to.length) (hs:Ints w (.slice at_ n ct) to) :
  Calls Tryz.prog 187 #[.pointer (some ⟨bc,0,none⟩),.agg #[.int .i64 1,.int .i64 val,.slice at_ n ct,.int .i64 N]] w fun e w'=>e = .returned (.bool (gS nb ⟨1,val,to,N⟩))/\Below w.heap.size w w':=by
 have HBC:=h! hb
 have HS:=h! hs
 have HN:=h! hn
 obtain ⟨r,hr⟩ : ∃ r,r=gS nb ⟨1,val,to,N⟩:=⟨_,rfl⟩
 have HR:Hid (r=((to.all fun b=>decide (1 <= b) && decide (b < (nb:Int))) && (n == 1 && val == -1 && N == 0))):=h! (by rw [hr,hn];unfold gS;simp)
 rw [<-hr]
 clear hb hs hn hr
 have hmm:=@run_makeMap Tryz.prog
 go_enter Tryz.func187,Tryz.ntmps187
 go_upto_region 1 with (fail)
 have hA_:=(Below.refl w.heap.size w).alloc (aF _) (.cells #[.pointer (some ⟨bc,0,none⟩)] 197)
 have HW:=h! hA_
 clear hA_
 have B2:=h! (Box.new w #[.pointer (some ⟨bc,0,none⟩)] 197)
 have hz0_:(w.alloc (.cells #[.pointer (some ⟨bc,0,none⟩)] 197)).heap.size=w.heap.size+1:=World.size_alloc _ _
 generalize w.alloc (.cells #[.pointer (some ⟨bc,0,none⟩)] 197)=wv0 at *
 have hA_:=(Below.refl wv0.heap.size wv0).alloc (aF _) (.cells #[.int .i64 1,.int .i64 val,.slice at_ n ct,.int .i64 N] 48)
 replace B2:=h! (B2.out.later hA_)
 replace HW:=h! (HW.out.trans (hA_.mono HW.out.size))
 clear hA_
 have B3:=h! (Box.new wv0 #[.int .i64 1,.int .i64 val,.slice at_ n ct,.int .i64 N] 48)
 rw [hz0_] at B3
 clear hz0_
 generalize wv0.alloc (.cells #[.int .i64 1,.int .i64 val,.slice at_ n ct,.int .i64 N] 48)=wv at *
 obtain ⟨lB2,cB2,fB2⟩:=B2.out
 obtain ⟨lB3,cB3,fB3⟩:=B3.out
 have HI:=h! (IMap.new wv)
 have HTU:=h! (Turn.refl [wv.heap.size] (wv.alloc (.map #[] 0)))
 have HLV:=h! HW.out.size
 have HL3:=h! B3.out.lt
 have HL2:=h! B2.out.lt
 clear lB2 cB2 fB2 lB3 cB3 fB3
 go_upto_region 2 with (with_reducible refine fC (q:=.i64) (b:=wv.heap.size) rfl _ _ _ _ (.inr rfl) Tryz.underlying74 Tryz.underlying3 rfl HI.out rfl ?_;intro w2 hm2 _ ht2;replace HI:=h! hm2;replace HTU:=h! (HTU.out.trans ht2);clear hm2 ht2)
 clear hmm
 replace HI:Hid (IMap w2 wv.heap.size jH):=h! (by rw [<-lC];exact HI.out)
 have hA0:Below wv.heap.size wv (wv.alloc (.map #[] 0)):=(Below.refl _ _).alloc (aF _) _
 have hb2:Below wv.heap.size wv w2:=hA0.trans (HTU.out.below (by simp) (fun x hx=>by simp at hx;omega))
 clear HTU hA0
 obtain ⟨lB2,cB2,fB2⟩:=B2.out
 obtain ⟨lB3,cB3,fB3⟩:=B3.out
 clear lB2 cB2 fB2 lB3 cB3 fB3
 replace B2:=h! (B2.out.later hb2)
 replace B3:=h! (B3.out.later hb2)
 replace HW:=h! (HW.out.trans (hb2.mono HW.out.size))
 clear hb2
 obtain ⟨lB2,cB2,fB2⟩:=B2.out
 obtain ⟨lB3,cB3,fB3⟩:=B3.out
 have HBR:=h! (HBC.out.later HW.out)
 have HSR:=h! (HS.out.below HW.out)
 have HMG:Hid (mget jH 1=some (.int .i64 1)):=h! (by kernel_rfl)
 cases hN0:decide (N < 0) <;> cases hN1:decide (0 < N) <;> cases hv:(val != -1) <;> cases hl:((n:Int) != 1)
 all_goals
  have H0:=h! hN0
  have H1:=h! hN1
  have HV:=h! hv
  have HL:=h! hl
  go_wp2_with (first
   | (at_lookup;refine fE (q:=.i64) (z:=.int .i64 0) (b:=wv.heap.size) (mm:=jH) (y:=1) rfl _ _ _ rfl Tryz.underlying74 Tryz.underlying3 (gT _) rfl HI.out rfl ?_;rw [HMG.out])
   | (go_at_call 92;refine (kC HSR.out _ _ (qK nb) mP (uM HBR.out B2.out _)).mono ?_;rintro e w4 ⟨rfl,hb4⟩;have HB4:=h! (HW.out.trans (hb4.mono HW.out.size));clear hb4))
  go_ret
  have e1:=H0.out
  have e2:=H1.out
  have e3:(val == -1) = !(val != -1):=by simp [bne]
  have e5:(n == 1) = !((n:Int) != 1):=by rw [show (n == 1)=((n:Int) == 1) by (rw [cC];simp;try omega)];simp [bne]
  rw [HV.out] at e3
  rw [HL.out] at e5
  first
   | exact ⟨by rw [HR.out,mO,e5];(try rw [e3]);simp at e1 e2 ⊢;try omega,HB4.out⟩
   | exact ⟨by rw [HR.out,e5];(try rw [e3]);simp at e1 e2 ⊢;try omega,HW.out⟩
theorem aDZ {w:World} {bc bm:Nat} {vp:Value} {ab:Option Addr} {nb cb:Nat} {ar ce:Int} {val N:Int} {to:List Int} {n:Nat} {at_:Option Addr} {ct:Nat}
  (hb:Box w bc (chk vp (.slice ab nb cb) ar ce bm)) (hn:n=to.length) (hs:Ints w (.slice at_ n ct) to) :
  Calls Tryz.prog 187 #[.pointer (some ⟨bc,0,none⟩),.agg #[.int .i64 2,.int .i64 val,.slice at_ n ct,.int .i64 N]] w fun e w'=>e = .returned (.bool (gS nb ⟨2,val,to,N⟩))/\Below w.heap.size w w':=by
 have HBC:=h! hb
 have HS:=h! hs
 have HN:=h! hn
 obtain ⟨r,hr⟩ : ∃ r,r=gS nb ⟨2,val,to,N⟩:=⟨_,rfl⟩
 have HR:Hid (r=((to.all fun b=>decide (1 <= b) && decide (b < (nb:Int))) && (n == 2 && N == 0))):=h! (by rw [hr,hn];unfold gS;simp)
 rw [<-hr]
 clear hb hs hn hr
 have hmm:=@run_makeMap Tryz.prog
 go_enter Tryz.func187,Tryz.ntmps187
 go_upto_region 1 with (fail)
 have hA_:=(Below.refl w.heap.size w).alloc (aF _) (.cells #[.pointer (some ⟨bc,0,none⟩)] 197)
 have HW:=h! hA_
 clear hA_
 have B2:=h! (Box.new w #[.pointer (some ⟨bc,0,none⟩)] 197)
 have hz0_:(w.alloc (.cells #[.pointer (some ⟨bc,0,none⟩)] 197)).heap.size=w.heap.size+1:=World.size_alloc _ _
 generalize w.alloc (.cells #[.pointer (some ⟨bc,0,none⟩)] 197)=wv0 at *
 have hA_:=(Below.refl wv0.heap.size wv0).alloc (aF _) (.cells #[.int .i64 2,.int .i64 val,.slice at_ n ct,.int .i64 N] 48)
 replace B2:=h! (B2.out.later hA_)
 replace HW:=h! (HW.out.trans (hA_.mono HW.out.size))
 clear hA_
 have B3:=h! (Box.new wv0 #[.int .i64 2,.int .i64 val,.slice at_ n ct,.int .i64 N] 48)
 rw [hz0_] at B3
 clear hz0_
 generalize wv0.alloc (.cells #[.int .i64 2,.int .i64 val,.slice at_ n ct,.int .i64 N] 48)=wv at *
 obtain ⟨lB2,cB2,fB2⟩:=B2.out
 obtain ⟨lB3,cB3,fB3⟩:=B3.out
 have HI:=h! (IMap.new wv)
 have HTU:=h! (Turn.refl [wv.heap.size] (wv.alloc (.map #[] 0)))
 have HLV:=h! HW.out.size
 have HL3:=h! B3.out.lt
 have HL2:=h! B2.out.lt
 clear lB2 cB2 fB2 lB3 cB3 fB3
 go_upto_region 2 with (with_reducible refine fC (q:=.i64) (b:=wv.heap.size) rfl _ _ _ _ (.inr rfl) Tryz.underlying74 Tryz.underlying3 rfl HI.out rfl ?_;intro w2 hm2 _ ht2;replace HI:=h! hm2;replace HTU:=h! (HTU.out.trans ht2);clear hm2 ht2)
 clear hmm
 replace HI:Hid (IMap w2 wv.heap.size jH):=h! (by rw [<-lC];exact HI.out)
 have hA0:Below wv.heap.size wv (wv.alloc (.map #[] 0)):=(Below.refl _ _).alloc (aF _) _
 have hb2:Below wv.heap.size wv w2:=hA0.trans (HTU.out.below (by simp) (fun x hx=>by simp at hx;omega))
 clear HTU hA0
 obtain ⟨lB2,cB2,fB2⟩:=B2.out
 obtain ⟨lB3,cB3,fB3⟩:=B3.out
 clear lB2 cB2 fB2 lB3 cB3 fB3
 replace B2:=h! (B2.out.later hb2)
 replace B3:=h! (B3.out.later hb2)
 replace HW:=h! (HW.out.trans (hb2.mono HW.out.size))
 clear hb2
 obtain ⟨lB2,cB2,fB2⟩:=B2.out
 obtain ⟨lB3,cB3,fB3⟩:=B3.out
 have HBR:=h! (HBC.out.later HW.out)
 have HSR:=h! (HS.out.below HW.out)
 have HMG:Hid (mget jH 2=some (.int .i64 2)):=h! (by kernel_rfl)
 cases hN0:decide (N < 0) <;> cases hN1:decide (0 < N) <;> cases hv:(val != -1) <;> cases hl:((n:Int) != 2)
 all_goals
  have H0:=h! hN0
  have H1:=h! hN1
  have HV:=h! hv
  have HL:=h! hl
  go_wp2_with (first
   | (at_lookup;refine fE (q:=.i64) (z:=.int .i64 0) (b:=wv.heap.size) (mm:=jH) (y:=2) rfl _ _ _ rfl Tryz.underlying74 Tryz.underlying3 (gT _) rfl HI.out rfl ?_;rw [HMG.out])
   | (go_at_call 92;refine (kC HSR.out _ _ (qK nb) mP (uM HBR.out B2.out _)).mono ?_;rintro e w4 ⟨rfl,hb4⟩;have HB4:=h! (HW.out.trans (hb4.mono HW.out.size));clear hb4))
  go_ret
  have e1:=H0.out
  have e2:=H1.out
  have e3:(val == -1) = !(val != -1):=by simp [bne]
  have e5:(n == 2) = !((n:Int) != 2):=by rw [show (n == 2)=((n:Int) == 2) by (rw [cC];simp;try omega)];simp [bne]
  rw [HV.out] at e3
  rw [HL.out] at e5
  first
   | exact ⟨by rw [HR.out,mO,e5];(try rw [e3]);simp at e1 e2 ⊢;try omega,HB4.out⟩
   | exact ⟨by rw [HR.out,e5];(try rw [e3]);simp at e1 e2 ⊢;try omega,HW.out⟩
theorem aD0 {w:World} {bc bm:Nat} {vp:Value} {ab:Option Addr} {nb cb:Nat} {ar ce:Int} {val N:Int} {to:List Int} {n:Nat} {at_:Option Addr} {ct:Nat}
  (hb:Box w bc (chk vp (.slice ab nb cb) ar ce bm)) (hn:n=to.length) (hs:Ints w (.slice at_ n ct) to) :
  Calls Tryz.prog 187 #[.pointer (some ⟨bc,0,none⟩),.agg #[.int .i64 3,.int .i64 val,.slice at_ n ct,.int .i64 N]] w fun e w'=>e = .returned (.bool (gS nb ⟨3,val,to,N⟩))/\Below w.heap.size w w':=by
 have HBC:=h! hb
 have HS:=h! hs
 have HN:=h! hn
 obtain ⟨r,hr⟩ : ∃ r,r=gS nb ⟨3,val,to,N⟩:=⟨_,rfl⟩
 have HR:Hid (r=((to.all fun b=>decide (1 <= b) && decide (b < (nb:Int))) && (n == 0 && N == 0))):=h! (by rw [hr,hn];unfold gS;simp)
 rw [<-hr]
 clear hb hs hn hr
 have hmm:=@run_makeMap Tryz.prog
 go_enter Tryz.func187,Tryz.ntmps187
 go_upto_region 1 with (fail)
 have hA_:=(Below.refl w.heap.size w).alloc (aF _) (.cells #[.pointer (some ⟨bc,0,none⟩)] 197)
 have HW:=h! hA_
 clear hA_
 have B2:=h! (Box.new w #[.pointer (some ⟨bc,0,none⟩)] 197)
 have hz0_:(w.alloc (.cells #[.pointer (some ⟨bc,0,none⟩)] 197)).heap.size=w.heap.size+1:=World.size_alloc _ _
 generalize w.alloc (.cells #[.pointer (some ⟨bc,0,none⟩)] 197)=wv0 at *
 have hA_:=(Below.refl wv0.heap.size wv0).alloc (aF _) (.cells #[.int .i64 3,.int .i64 val,.slice at_ n ct,.int .i64 N] 48)
 replace B2:=h! (B2.out.later hA_)
 replace HW:=h! (HW.out.trans (hA_.mono HW.out.size))
 clear hA_
 have B3:=h! (Box.new wv0 #[.int .i64 3,.int .i64 val,.slice at_ n ct,.int .i64 N] 48)
 rw [hz0_] at B3
 clear hz0_
 generalize wv0.alloc (.cells #[.int .i64 3,.int .i64 val,.slice at_ n ct,.int .i64 N] 48)=wv at *
 obtain ⟨lB2,cB2,fB2⟩:=B2.out
 obtain ⟨lB3,cB3,fB3⟩:=B3.out
 have HI:=h! (IMap.new wv)
 have HTU:=h! (Turn.refl [wv.heap.size] (wv.alloc (.map #[] 0)))
 have HLV:=h! HW.out.size
 have HL3:=h! B3.out.lt
 have HL2:=h! B2.out.lt
 clear lB2 cB2 fB2 lB3 cB3 fB3
 go_upto_region 2 with (with_reducible refine fC (q:=.i64) (b:=wv.heap.size) rfl _ _ _ _ (.inr rfl) Tryz.underlying74 Tryz.underlying3 rfl HI.out rfl ?_;intro w2 hm2 _ ht2;replace HI:=h! hm2;replace HTU:=h! (HTU.out.trans ht2);clear hm2 ht2)
 clear hmm
 replace HI:Hid (IMap w2 wv.heap.size jH):=h! (by rw [<-lC];exact HI.out)
 have hA0:Below wv.heap.size wv (wv.alloc (.map #[] 0)):=(Below.refl _ _).alloc (aF _) _
 have hb2:Below wv.heap.size wv w2:=hA0.trans (HTU.out.below (by simp) (fun x hx=>by simp at hx;omega))
 clear HTU hA0
 obtain ⟨lB2,cB2,fB2⟩:=B2.out
 obtain ⟨lB3,cB3,fB3⟩:=B3.out
 clear lB2 cB2 fB2 lB3 cB3 fB3
 replace B2:=h! (B2.out.later hb2)
 replace B3:=h! (B3.out.later hb2)
 replace HW:=h! (HW.out.trans (hb2.mono HW.out.size))
 clear hb2
 obtain ⟨lB2,cB2,fB2⟩:=B2.out
 obtain ⟨lB3,cB3,fB3⟩:=B3.out
 have HBR:=h! (HBC.out.later HW.out)
 have HSR:=h! (HS.out.below HW.out)
 have HMG:Hid (mget jH 3=some (.int .i64 0)):=h! (by kernel_rfl)
 cases hN0:decide (N < 0) <;> cases hN1:decide (0 < N) <;> cases hv:(val != -1) <;> cases hl:((n:Int) != 0)
 all_goals
  have H0:=h! hN0
  have H1:=h! hN1
  have HV:=h! hv
  have HL:=h! hl
  go_wp2_with (first
   | (at_lookup;refine fE (q:=.i64) (z:=.int .i64 0) (b:=wv.heap.size) (mm:=jH) (y:=3) rfl _ _ _ rfl Tryz.underlying74 Tryz.underlying3 (gT _) rfl HI.out rfl ?_;rw [HMG.out])
   | (go_at_call 92;refine (kC HSR.out _ _ (qK nb) mP (uM HBR.out B2.out _)).mono ?_;rintro e w4 ⟨rfl,hb4⟩;have HB4:=h! (HW.out.trans (hb4.mono HW.out.size));clear hb4))
  go_ret
  have e1:=H0.out
  have e2:=H1.out
  have e3:(val == -1) = !(val != -1):=by simp [bne]
  have e5:(n == 0) = !((n:Int) != 0):=by rw [show (n == 0)=((n:Int) == 0) by (rw [cC];simp;try omega)];simp [bne]
  rw [HV.out] at e3
  rw [HL.out] at e5
  first
   | exact ⟨by rw [HR.out,mO,e5];(try rw [e3]);simp at e1 e2 ⊢;try omega,HB4.out⟩
   | exact ⟨by rw [HR.out,e5];(try rw [e3]);simp at e1 e2 ⊢;try omega,HW.out⟩
theorem aD1 {w:World} {bc bm:Nat} {vp:Value} {ab:Option Addr} {nb cb:Nat} {ar ce:Int} {val N:Int} {to:List Int} {n:Nat} {at_:Option Addr} {ct:Nat}
  (hb:Box w bc (chk vp (.slice ab nb cb) ar ce bm)) (hn:n=to.length) (hs:Ints w (.slice at_ n ct) to) :
  Calls Tryz.prog 187 #[.pointer (some ⟨bc,0,none⟩),.agg #[.int .i64 4,.int .i64 val,.slice at_ n ct,.int .i64 N]] w fun e w'=>e = .returned (.bool (gS nb ⟨4,val,to,N⟩))/\Below w.heap.size w w':=by
 have HBC:=h! hb
 have HS:=h! hs
 have HN:=h! hn
 obtain ⟨r,hr⟩ : ∃ r,r=gS nb ⟨4,val,to,N⟩:=⟨_,rfl⟩
 have HR:Hid (r=((to.all fun b=>decide (1 <= b) && decide (b < (nb:Int))) && (n == 0 && val == -1 && decide (0 <= N)))):=h! (by rw [hr,hn];unfold gS;simp)
 rw [<-hr]
 clear hb hs hn hr
 have hmm:=@run_makeMap Tryz.prog
 go_enter Tryz.func187,Tryz.ntmps187
 go_upto_region 1 with (fail)
 have hA_:=(Below.refl w.heap.size w).alloc (aF _) (.cells #[.pointer (some ⟨bc,0,none⟩)] 197)
 have HW:=h! hA_
 clear hA_
 have B2:=h! (Box.new w #[.pointer (some ⟨bc,0,none⟩)] 197)
 have hz0_:(w.alloc (.cells #[.pointer (some ⟨bc,0,none⟩)] 197)).heap.size=w.heap.size+1:=World.size_alloc _ _
 generalize w.alloc (.cells #[.pointer (some ⟨bc,0,none⟩)] 197)=wv0 at *
 have hA_:=(Below.refl wv0.heap.size wv0).alloc (aF _) (.cells #[.int .i64 4,.int .i64 val,.slice at_ n ct,.int .i64 N] 48)
 replace B2:=h! (B2.out.later hA_)
 replace HW:=h! (HW.out.trans (hA_.mono HW.out.size))
 clear hA_
 have B3:=h! (Box.new wv0 #[.int .i64 4,.int .i64 val,.slice at_ n ct,.int .i64 N] 48)
 rw [hz0_] at B3
 clear hz0_
 generalize wv0.alloc (.cells #[.int .i64 4,.int .i64 val,.slice at_ n ct,.int .i64 N] 48)=wv at *
 obtain ⟨lB2,cB2,fB2⟩:=B2.out
 obtain ⟨lB3,cB3,fB3⟩:=B3.out
 have HI:=h! (IMap.new wv)
 have HTU:=h! (Turn.refl [wv.heap.size] (wv.alloc (.map #[] 0)))
 have HLV:=h! HW.out.size
 have HL3:=h! B3.out.lt
 have HL2:=h! B2.out.lt
 clear lB2 cB2 fB2 lB3 cB3 fB3
 go_upto_region 2 with (with_reducible refine fC (q:=.i64) (b:=wv.heap.size) rfl _ _ _ _ (.inr rfl) Tryz.underlying74 Tryz.underlying3 rfl HI.out rfl ?_;intro w2 hm2 _ ht2;replace HI:=h! hm2;replace HTU:=h! (HTU.out.trans ht2);clear hm2 ht2)
 clear hmm
 replace HI:Hid (IMap w2 wv.heap.size jH):=h! (by rw [<-lC];exact HI.out)
 have hA0:Below wv.heap.size wv (wv.alloc (.map #[] 0)):=(Below.refl _ _).alloc (aF _) _
 have hb2:Below wv.heap.size wv w2:=hA0.trans (HTU.out.below (by simp) (fun x hx=>by simp at hx;omega))
 clear HTU hA0
 obtain ⟨lB2,cB2,fB2⟩:=B2.out
 obtain ⟨lB3,cB3,fB3⟩:=B3.out
 clear lB2 cB2 fB2 lB3 cB3 fB3
 replace B2:=h! (B2.out.later hb2)
 replace B3:=h! (B3.out.later hb2)
 replace HW:=h! (HW.out.trans (hb2.mono HW.out.size))
 clear hb2
 obtain ⟨lB2,cB2,fB2⟩:=B2.out
 obtain ⟨lB3,cB3,fB3⟩:=B3.out
 have HBR:=h! (HBC.out.later HW.out)
 have HSR:=h! (HS.out.below HW.out)
 have HMG:Hid (mget jH 4=some (.int .i64 0)):=h! (by kernel_rfl)
 cases hN0:decide (N < 0) <;> cases hN1:decide (0 < N) <;> cases hv:(val != -1) <;> cases hl:((n:Int) != 0)
 all_goals
  have H0:=h! hN0
  have H1:=h! hN1
  have HV:=h! hv
  have HL:=h! hl
  go_wp2_with (first
   | (at_lookup;refine fE (q:=.i64) (z:=.int .i64 0) (b:=wv.heap.size) (mm:=jH) (y:=4) rfl _ _ _ rfl Tryz.underlying74 Tryz.underlying3 (gT _) rfl HI.out rfl ?_;rw [HMG.out])
   | (go_at_call 92;refine (kC HSR.out _ _ (qK nb) mP (uM HBR.out B2.out _)).mono ?_;rintro e w4 ⟨rfl,hb4⟩;have HB4:=h! (HW.out.trans (hb4.mono HW.out.size));clear hb4))
  go_ret
  have e1:=H0.out
  have e2:=H1.out
  have e3:(val == -1) = !(val != -1):=by simp [bne]
  have e5:(n == 0) = !((n:Int) != 0):=by rw [show (n == 0)=((n:Int) == 0) by (rw [cC];simp;try omega)];simp [bne]
  rw [HV.out] at e3
  rw [HL.out] at e5
  first
   | exact ⟨by rw [HR.out,mO,e5];(try rw [e3]);simp at e1 e2 ⊢;try omega,HB4.out⟩
   | exact ⟨by rw [HR.out,e5];(try rw [e3]);simp at e1 e2 ⊢;try omega,HW.out⟩
theorem aBR {w:World} {bc:Nat} {op val N:Int} {n:Nat} {at_:Option Addr} {ct:Nat} (hno:op ≠ 1/\op ≠ 2/\op ≠ 3/\op ≠ 4) :
  Calls Tryz.prog 187 #[.pointer (some ⟨bc,0,none⟩),.agg #[.int .i64 op,.int .i64 val,.slice at_ n ct,.int .i64 N]] w fun e w'=>e = .returned (.bool false)/\Below w.heap.size w w':=by
 have HMG:Hid (mget jH op=none):=h! (by rw [oY];unfold jH;simp;omega)
 clear hno
 have hmm:=@run_makeMap Tryz.prog
 go_enter Tryz.func187,Tryz.ntmps187
 go_upto_region 1 with (fail)
 have hA_:=(Below.refl w.heap.size w).alloc (aF _) (.cells #[.pointer (some ⟨bc,0,none⟩)] 197)
 have HW:=h! hA_
 clear hA_
 have B2:=h! (Box.new w #[.pointer (some ⟨bc,0,none⟩)] 197)
 have hz0_:(w.alloc (.cells #[.pointer (some ⟨bc,0,none⟩)] 197)).heap.size=w.heap.size+1:=World.size_alloc _ _
 generalize w.alloc (.cells #[.pointer (some ⟨bc,0,none⟩)] 197)=wv0 at *
 have hA_:=(Below.refl wv0.heap.size wv0).alloc (aF _) (.cells #[.int .i64 op,.int .i64 val,.slice at_ n ct,.int .i64 N] 48)
 replace B2:=h! (B2.out.later hA_)
 replace HW:=h! (HW.out.trans (hA_.mono HW.out.size))
 clear hA_
 have B3:=h! (Box.new wv0 #[.int .i64 op,.int .i64 val,.slice at_ n ct,.int .i64 N] 48)
 rw [hz0_] at B3
 clear hz0_
 generalize wv0.alloc (.cells #[.int .i64 op,.int .i64 val,.slice at_ n ct,.int .i64 N] 48)=wv at *
 obtain ⟨lB2,cB2,fB2⟩:=B2.out
 obtain ⟨lB3,cB3,fB3⟩:=B3.out
 have HI:=h! (IMap.new wv)
 have HTU:=h! (Turn.refl [wv.heap.size] (wv.alloc (.map #[] 0)))
 have HLV:=h! HW.out.size
 have HL3:=h! B3.out.lt
 have HL2:=h! B2.out.lt
 clear lB2 cB2 fB2 lB3 cB3 fB3
 go_upto_region 2 with (with_reducible refine fC (q:=.i64) (b:=wv.heap.size) rfl _ _ _ _ (.inr rfl) Tryz.underlying74 Tryz.underlying3 rfl HI.out rfl ?_;intro w2 hm2 _ ht2;replace HI:=h! hm2;replace HTU:=h! (HTU.out.trans ht2);clear hm2 ht2)
 clear hmm
 replace HI:Hid (IMap w2 wv.heap.size jH):=h! (by rw [<-lC];exact HI.out)
 have hA0:Below wv.heap.size wv (wv.alloc (.map #[] 0)):=(Below.refl _ _).alloc (aF _) _
 have hb2:Below wv.heap.size wv w2:=hA0.trans (HTU.out.below (by simp) (fun x hx=>by simp at hx;omega))
 clear HTU hA0
 obtain ⟨lB2,cB2,fB2⟩:=B2.out
 obtain ⟨lB3,cB3,fB3⟩:=B3.out
 clear lB2 cB2 fB2 lB3 cB3 fB3
 replace B2:=h! (B2.out.later hb2)
 replace B3:=h! (B3.out.later hb2)
 replace HW:=h! (HW.out.trans (hb2.mono HW.out.size))
 clear hb2
 obtain ⟨lB2,cB2,fB2⟩:=B2.out
 obtain ⟨lB3,cB3,fB3⟩:=B3.out
 go_wp2_with (at_lookup;refine fE (q:=.i64) (z:=.int .i64 0) (b:=wv.heap.size) (mm:=jH) (y:=op) rfl _ _ _ rfl Tryz.underlying74 Tryz.underlying3 (gT _) rfl HI.out rfl ?_;rw [HMG.out])
 go_ret
 exact ⟨rfl,HW.out⟩
theorem aF8 {w:World} {bc bm:Nat} {vp:Value} {ab:Option Addr} {nb cb:Nat} {ar ce:Int} {t:TermD} {at_:Option Addr} {ct:Nat}
  (hb:Box w bc (chk vp (.slice ab nb cb) ar ce bm)) (hs:Ints w (.slice at_ t.to.length ct) t.to) :
  Calls Tryz.prog 187 #[.pointer (some ⟨bc,0,none⟩),.agg (aCG t at_ ct)] w fun e w'=>e = .returned (.bool (gS nb t))/\Below w.heap.size w w':=by
 obtain ⟨op,val,to,N⟩:=t
 unfold aCG
 by_cases h1:op=1
 ·subst h1;exact aDY hb rfl hs
 ·by_cases h2:op=2
  ·subst h2;exact aDZ hb rfl hs
  by_cases h3:op=3
  ·subst h3;exact aD0 hb rfl hs
  by_cases h4:op=4
  ·subst h4;exact aD1 hb rfl hs
  refine (aBR ⟨h1,h2,h3,h4⟩).mono fun e w' ⟨he,hw⟩=>⟨?_,hw⟩
  rw [he]
  have:gS nb ⟨op,val,to,N⟩=false:=by
   unfold gS
   simp [h1,h2,h3,h4]
  rw [this]
theorem aD2 {w:World}:Calls Tryz.prog 188 #[.int .i64 17] w (ShpR 17 w):=by
 go_enter Tryz.func188,Tryz.ntmps188
 go_upto_region 1 with (fail)
 have hA_:=(Below.refl w.heap.size w).alloc (aF _) (.cells #[.int .i64 0,.slice none 0 0,.int .i64 0] 249)
 have HW:=h! hA_
 clear hA_
 have B2:=h! (Box.new w #[.int .i64 0,.slice none 0 0,.int .i64 0] 249)
 generalize w.alloc (.cells #[.int .i64 0,.slice none 0 0,.int .i64 0] 249)=wv at *
 obtain ⟨lB2,cB2,fB2⟩:=B2.out
 go_wp2_with fail
 refine (gY 2 1 ⟨by decide,by decide⟩ (by decide)).mono ?_
 rintro e w1 ⟨u,rfl,hu,hb1⟩
 obtain ⟨ua,uc,rfl⟩:=hu.ints.form
 simp only [aV] at hu ⊢
 have HU:=h! hu
 have HL:=h! lB2
 clear hu
 clear lB2 cB2 fB2
 replace B2:=h! (B2.out.later hb1)
 replace HW:=h! (HW.out.trans (hb1.mono HW.out.size))
 clear hb1
 obtain ⟨lB2,cB2,fB2⟩:=B2.out
 go_wp2_with fail
 refine (gY 1 2 ⟨by decide,by decide⟩ (by decide)).mono ?_
 rintro e w2 ⟨u2,rfl,hu2,hb2⟩
 obtain ⟨ua2,uc2,rfl⟩:=hu2.ints.form
 simp only [aV] at hu2 ⊢
 have HU2:=h! hu2
 clear hu2
 replace HU:=h! (HU.out.later hb2)
 clear lB2 cB2 fB2
 replace B2:=h! (B2.out.later hb2)
 replace HW:=h! (HW.out.trans (hb2.mono HW.out.size))
 clear hb2
 obtain ⟨lB2,cB2,fB2⟩:=B2.out
 have OL:Hid (Own w2 wv.heap.size [w.heap.size] 3 1 (.slice ua 1 uc) 1 [.int .i64 2]):=h! ⟨HU.out.own,fun g hg hm=>by
  have:=(HU.out.fresh g hg).1
  have:=HL.out
  simp at hm;omega⟩
 have HS:=h! HU.out.own
 have hsz:wv.heap.size <= w2.heap.size:=by
  rcases HU.out.own.2 with ⟨_,h⟩ | ⟨g,cap,cur,hv,hg,hh,_⟩
  ·simp at h
  have:=(aS.1 hh).1;omega
 have HZ:=h! hsz
 clear hsz
 go_wp2_with (at_builtin;refine fZ rfl _ _ 22 3 rfl mA rfl rfl OL.out HU2.out.ints.1 (pJ _) (by unfold maxLen;simp) (by simp) HZ.out (by intro b hb;simp at hb;omega) ?_;intro v3 w3 hO3 hBs3 hb3;obtain ⟨a3,c3,rfl⟩:=hO3.form;simp only [aV] at hO3 ⊢;have HO3:=h! hO3;have B3:=h! (hBs3 _ _ (by simp) B2.out);have HW3:=h! (HW.out.trans (hb3.mono (bG HL.out)));clear hO3 hBs3 hb3;obtain ⟨l3,c3',f3⟩:=B3.out;clear lB2 cB2 fB2)
 have HN:Hid (New 3 wv w3 (.slice a3 3 c3) [2,1,1]):=h! ⟨HO3.out.row,by simp,fun x hx=>by simp at hx;rcases hx with rfl | rfl | rfl <;> exact ⟨by decide,by decide⟩⟩
 exact bodyPost_ret (v:=.tuple #[.agg #[.int .i64 1,.slice a3 3 c3,.int .i64 0],.bool true]) (by simp [results,Tryz.results188,go_sem, *]) rfl
  ⟨_,rfl,(((HN.out.other _ (.inl HL.out)).other _ (.inl HL.out)).other _ (.inl HL.out)).from (bG HL.out),((HW3.out.setCell (by simp) _).setCell (by simp) _).setCell (by simp) _⟩
theorem aD3 {w:World} {op:Int} (h:op < 1 \/ 25 < op):Calls Tryz.prog 188 #[.int .i64 op] w (ShpR op w):=by
 have HS:=h! (show shp op=none by unfold shp;repeat (rw [if_neg (by omega)]))
 have e1:(op == 1)=false:=by simp;omega
 have e2:(op == 2)=false:=by simp;omega
 have e13:(op == 13)=false:=by simp;omega
 have e14:(op == 14)=false:=by simp;omega
 have e15:(op == 15)=false:=by simp;omega
 have e16:(op == 16)=false:=by simp;omega
 have e17:(op == 17)=false:=by simp;omega
 have e18:(op == 18)=false:=by simp;omega
 have e19:(op == 19)=false:=by simp;omega
 have e21:(op == 21)=false:=by simp;omega
 have e20:(op == 20)=false:=by simp;omega
 have e22:(op == 22)=false:=by simp;omega
 have e23:(op == 23)=false:=by simp;omega
 have e24:(op == 24)=false:=by simp;omega
 have e25:(op == 25)=false:=by simp;omega
 have r1:(decide (3 <= op) && decide (op <= 12))=false:=by simp;omega
 have HR:Hid (decide (3 <= op)=false \/ (decide (3 <= op)=true/\decide (op <= 12)=false)):=h! (by simp;omega)
 clear h r1
 rcases HR.out with r1 | ⟨r1,r2⟩
 all_goals
  go_enter Tryz.func188,Tryz.ntmps188
  go_upto_region 1 with (fail)
  have hA_:=(Below.refl w.heap.size w).alloc (aF _) (.cells #[.int .i64 0,.slice none 0 0,.int .i64 0] 249)
  have HW:=h! hA_
  clear hA_
  have B2:=h! (Box.new w #[.int .i64 0,.slice none 0 0,.int .i64 0] 249)
  generalize w.alloc (.cells #[.int .i64 0,.slice none 0 0,.int .i64 0] 249)=wv at *
  obtain ⟨lB2,cB2,fB2⟩:=B2.out
  go_wp2
  exact bodyPost_ret (v:=.tuple #[.agg #[.int .i64 0,.slice none 0 0,.int .i64 0],.bool false]) (by simp [results,Tryz.results188,go_sem, *]) rfl
   ⟨.slice none 0 0,by unfold shp0;rw [HS.out];rfl,by unfold shp0;rw [HS.out];exact New.nil,((HW.out.setCell (by simp) _).setCell (by simp) _).setCell (by simp) _⟩
theorem yS {w:World} (op:Int):Calls Tryz.prog 188 #[.int .i64 op] w (ShpR op w):=by
 by_cases h:op < 1 \/ 25 < op
 ·exact aD3 h
 obtain rfl | rfl | rfl | rfl | rfl | rfl | rfl | rfl | rfl | rfl | rfl | rfl | rfl | rfl | rfl | rfl | rfl | rfl | rfl | rfl | rfl | rfl | rfl | rfl | rfl:op=1 \/ op=2 \/ op=3 \/ op=4 \/ op=5 \/ op=6 \/ op=7 \/ op=8 \/ op=9 \/ op=10 \/ op=11 \/ op=12 \/ op=13 \/ op=14 \/ op=15 \/ op=16 \/ op=17 \/ op=18 \/ op=19 \/ op=20 \/ op=21 \/ op=22 \/ op=23 \/ op=24 \/ op=25:=by omega
 ·exact aHG
 ·exact aHH
 ·exact aHI
 ·exact aHJ
 ·exact aHK
 ·exact aHL
 ·exact aHM
 ·exact aHN
 ·exact aHO
 ·exact aFJ
 ·exact aFK
 ·exact aFL
 ·exact aE9
 ·exact aFA
 ·exact aFB
 ·exact aFC
 ·exact aD2
 ·exact aE7
 ·exact aFD
 ·exact aFF
 ·exact aFE
 ·exact aFG
 ·exact aFH
 ·exact aE8
 exact aFI
theorem eK {B:Nat} {a w:World} (h:Below B a w) (n:Nat):Below B a (w.drewN n):=⟨h.os,h.tape,h.output,h.size,h.block⟩
theorem uN {W:World} {v:Value} {bs:List BlockD} (h:eQ gF 6 W v bs):∀ b ∈ bs,1 <= gD b/\gD b <= 35184372088833:=by
 intro b hb
 obtain ⟨cs,_,h2⟩:=h
 obtain ⟨j,hj,rfl⟩:=dQ hb
 obtain ⟨v,u,t,_,h3,h4,_⟩:=h2 j _ (aB hj)
 have:=h3.le
 have:=h4.le
 unfold gD;omega
theorem yT (l:List Int) (a b:Int) (h:∀ x ∈ l,a <= x/\x <= b):a * l.length <= l.sum/\l.sum <= b * l.length:=by
 induction l with
 | nil=>simp
 | cons x l ih =>
  have h1:=h x (by simp)
  have h2:=ih fun y hy=>h y (by simp [hy])
  simp only [List.sum_cons,bB,Int.natCast_add,Int.natCast_one,Int.mul_add,Int.mul_one]
  omega
theorem pR {W:World} {v:Value} {bs:List BlockD} (h:eQ gF 6 W v bs) (j:Nat) (hj:j <= 512):0 <= ((bs.take j).map gD).sum/\((bs.take j).map gD).sum <= 18014398509482496:=by
 have h1:=yT ((bs.take j).map gD) 1 35184372088833 (fun x hx=>by
  obtain ⟨b,hb,rfl⟩:=aY.1 hx
  exact uN h b (dO hb))
 rw [bD,aX] at h1
 omega
theorem uO (bs:List BlockD) (j:Nat) (x:BlockD) (h:bs[j]? = some x):((bs.take (j+1)).map gD).sum=((bs.take j).map gD).sum+gD x:=by
 rw [bU,h,Option.toList_some,bF,List.sum_append];simp
theorem yU {w:World} {bc:Nat} {vb:Value} {bs:List BlockD} (h3:w.cell? ⟨bc,3,none⟩=some vb) (hB:eQ gF 6 w vb bs) (hn:bs.length <= 512) :
  Calls Tryz.prog 184 #[.pointer (some ⟨bc,0,none⟩)] w fun e w'=>e = .returned (.int .i64 ((bs.map gD).sum))/\Below w.heap.size w w':=by
 have HSZ:=h! hB
 obtain ⟨a,cap,b,off,rfl,hc,hm,hl,ha,hx⟩:=eW hB
 have HA:=h! ha
 have HX:=h! hx
 clear ha hx hB hl
 obtain ⟨n,hnn⟩ : ∃ n,n=bs.length:=⟨_,rfl⟩
 rw [<-hnn] at h3 hc hn HA
 have HN:=h! hnn
 clear hnn
 go_enter Tryz.func184,Tryz.ntmps184
 go_wp2
 go_loopw [3,12] (fun s i wr => ∃ j:Nat,j <= n/\i = .int .i64 j/\s = .int .i64 ((bs.take j).map gD).sum/\Below w.heap.size w wr) (fun _ i _=>n - (intOf i).toNat)
 case atStart=>exact ⟨0,aP _,rfl,rfl,Below.refl _ _⟩
 case round =>
  obtain ⟨j,hj,rfl,rfl,hW⟩:=hrel
  have HW:=h! hW
  clear hW
  by_cases hlt:j < n
  ·have hne:0 < n:=by omega
   obtain ⟨rfl,hbw⟩:=HA.out hne
   have hjx:bs[j]? = some bs[j]:=aB (by have:=HN.out;omega)
   obtain ⟨x,hxe⟩ : ∃ x,x=bs[j]'(by have:=HN.out;omega):=⟨_,rfl⟩
   rw [<-hxe] at hjx
   clear hxe
   obtain ⟨ap,ai,at_,cp,ci,ct,hC⟩:=HX.out j x hjx
   obtain ⟨c0,c1,c2,c3,c4,c5,h6,h7,h8,h9,h10,h11⟩:=hC.below HW.out hbw
   have hs0:=pR HSZ.out j (by omega)
   have hl1:=h6.le
   have hl2:=h7.le
   have HSN:=h! (uO bs j x hjx)
   have hsx:gD x=x.phis.length+x.code.length+1:=rfl
   rw [hsx] at HSN
   clear h6 h7 h8 h9 h10 h11 hC hjx hsx
   generalize ((bs.take j).map gD).sum=s at *
   go_wp2
   go_roundw
   case rel=>exact ⟨j+1,hlt,by go_num,by rw [HSN.out],HW.out.alloc HW.out.size _⟩
   simp [intOf];omega
  obtain rfl:j=n:=by omega
  go_wp2
  go_ret
  rw [aI (by have:=HN.out;omega)]
  exact ⟨rfl,HW.out⟩
end Go.Proofs.YtcmflfkpeodicaaGreat
