/- Part 8. -/
import Derived.Test.YtagabiidbbhhmaaGreatEB7
namespace Go.Proofs.YtagabiidbbhhmaaGreat
set_option maxHeartbeats 3200000
set_option linter.all false
open Go.RowKit
def qH (nb:Nat) (b:Int):Bool := !numB nb b || b == 0
theorem mL (nb:Nat) (l:List Int):(!(l.any (qH nb)))=l.all fun b=>decide (1 <= b) && decide (b < (nb:Int)):=by
 rw [List.not_any_eq_all_not]
 congr 1
 funext b
 unfold qH numB
 rw [bU]
 simp only [Bool.not_or,Bool.not_not,aK,decide_eq_true_eq,Bool.not_eq_true',beq_eq_false_iff_ne,ne_eq]
 omega
theorem uB {w:World} {bc bb:Nat} {vp:Value} {ab:Option Addr} {nb cb:Nat} {ar ce:Int} {bm:Nat} (hb:Box w bc (chk vp (.slice ab nb cb) ar ce bm)) (hc:Box w bb #[.pointer (some ⟨bc,0,none⟩)]) (xs:List Int) :
  Asks 207 #[.pointer (some ⟨bb,0,none⟩)] w xs (qH nb):=by
 intro W x hW _
 show Calls Tryz.prog 207 #[.int .i64 x,.pointer (some ⟨bb,0,none⟩)] W _
 have HB:=h! (hb.later hW)
 have h0:=(hc.later hW).at 0 rfl
 clear hb hc hW
 cases h1:numB nb x <;> cases h2:(x == 0)
 all_goals
  have H1:=h! h1
  have HR:Hid (qH nb x=_):=h! (by unfold qH;rw [h1,h2])
  clear h1
  go_enter Tryz.func207,Tryz.ntmps207
  go_wp2_with (go_at_call 205;refine (rC HB.out x _ H1.out).mono ?_;rintro e w1 ⟨rfl,rfl⟩)
  go_ret
  exact ⟨by rw [HR.out];rfl,Below.refl _ _⟩
theorem mM:Enters Tryz.prog 207:=enters_of Tryz.func207 (by kernel_rfl) rfl
def jB:List (Int × Value):=[(1,.int .i64 1),(2,.int .i64 2),(3,.int .i64 0),(4,.int .i64 0)]
theorem kY:mput (mput (mput (mput [] 1 (.int .i64 1)) 2 (.int .i64 2)) 3 (.int .i64 0)) 4 (.int .i64 0)=jB:=by kernel_rfl
theorem aD4 {w:World} {bc bm:Nat} {vp:Value} {ab:Option Addr} {nb cb:Nat} {ar ce:Int} {val N:Int} {to:List Int} {n:Nat} {at_:Option Addr} {ct:Nat}
  (hb:Box w bc (chk vp (.slice ab nb cb) ar ce bm)) (hn:n=to.length) (hs:Ints w (.slice at_ n ct) to) :
  Calls Tryz.prog 182 #[.pointer (some ⟨bc,0,none⟩),.agg #[.int .i64 1,.int .i64 val,.slice at_ n ct,.int .i64 N]] w fun e w'=>e = .returned (.bool (iM nb ⟨1,val,to,N⟩))/\Below w.heap.size w w':=by
 have HBC:=h! hb
 have HS:=h! hs
 have HN:=h! hn
 obtain ⟨r,hr⟩ : ∃ r,r=iM nb ⟨1,val,to,N⟩:=⟨_,rfl⟩
 have HR:Hid (r=((to.all fun b=>decide (1 <= b) && decide (b < (nb:Int))) && (n == 1 && val == -1 && N == 0))):=h! (by rw [hr,hn];unfold iM;simp)
 rw [<-hr]
 clear hb hs hn hr
 have hmm:=@run_makeMap Tryz.prog
 go_enter Tryz.func182,Tryz.ntmps182
 go_upto_region 1 with (fail)
 have hA_:=(Below.refl w.heap.size w).alloc (aA _) (.cells #[.pointer (some ⟨bc,0,none⟩)] 201)
 have HW:=h! hA_
 clear hA_
 have B2:=h! (Box.new w #[.pointer (some ⟨bc,0,none⟩)] 201)
 have hz0_:(w.alloc (.cells #[.pointer (some ⟨bc,0,none⟩)] 201)).heap.size=w.heap.size+1:=World.size_alloc _ _
 generalize w.alloc (.cells #[.pointer (some ⟨bc,0,none⟩)] 201)=wv0 at *
 have hA_:=(Below.refl wv0.heap.size wv0).alloc (aA _) (.cells #[.int .i64 1,.int .i64 val,.slice at_ n ct,.int .i64 N] 61)
 replace B2:=h! (B2.out.later hA_)
 replace HW:=h! (HW.out.trans (hA_.mono HW.out.size))
 clear hA_
 have B3:=h! (Box.new wv0 #[.int .i64 1,.int .i64 val,.slice at_ n ct,.int .i64 N] 61)
 rw [hz0_] at B3
 clear hz0_
 generalize wv0.alloc (.cells #[.int .i64 1,.int .i64 val,.slice at_ n ct,.int .i64 N] 61)=wv at *
 obtain ⟨lB2,cB2,fB2⟩:=B2.out
 obtain ⟨lB3,cB3,fB3⟩:=B3.out
 have HI:=h! (IMap.new wv)
 have HTU:=h! (Turn.refl [wv.heap.size] (wv.alloc (.map #[] 0)))
 have HLV:=h! HW.out.size
 have HL3:=h! B3.out.lt
 have HL2:=h! B2.out.lt
 clear lB2 cB2 fB2 lB3 cB3 fB3
 go_upto_region 2 with (with_reducible refine fT (q:=.i64) (b:=wv.heap.size) rfl _ _ _ _ (.inr rfl) Tryz.underlying93 Tryz.underlying3 rfl HI.out rfl ?_;intro w2 hm2 _ ht2;replace HI:=h! hm2;replace HTU:=h! (HTU.out.trans ht2);clear hm2 ht2)
 clear hmm
 replace HI:Hid (IMap w2 wv.heap.size jB):=h! (by rw [<-kY];exact HI.out)
 have hA0:Below wv.heap.size wv (wv.alloc (.map #[] 0)):=(Below.refl _ _).alloc (aA _) _
 have hb2:Below wv.heap.size wv w2:=hA0.trans (HTU.out.below (by simp) (fun x hx=>by simp at hx;omega))
 clear HTU hA0
 obtain ⟨lB2,cB2,fB2⟩:=B2.out
 obtain ⟨lB3,cB3,fB3⟩:=B3.out
 clear lB2 cB2 fB2 lB3 cB3 fB3
 replace B2:=h! (B2.out.later hb2)
 replace B3:=h! (B3.out.later hb2)
 replace HW:=h! (HW.out.trans (hb2.mono HW.out.size))
 clear hb2
 obtain ⟨lB2,cB2,fB2⟩:=B2.out
 obtain ⟨lB3,cB3,fB3⟩:=B3.out
 have HBR:=h! (HBC.out.later HW.out)
 have HSR:=h! (HS.out.below HW.out)
 have HMG:Hid (mget jB 1=some (.int .i64 1)):=h! (by kernel_rfl)
 cases hN0:decide (N < 0) <;> cases hN1:decide (0 < N) <;> cases hv:(val != -1) <;> cases hl:((n:Int) != 1)
 all_goals
  have H0:=h! hN0
  have H1:=h! hN1
  have HV:=h! hv
  have HL:=h! hl
  go_wp2_with (first
   | (at_lookup;refine fK (q:=.i64) (z:=.int .i64 0) (b:=wv.heap.size) (mm:=jB) (y:=1) rfl _ _ _ rfl Tryz.underlying93 Tryz.underlying3 (gP _) rfl HI.out rfl ?_;rw [HMG.out])
   | (go_at_call 105;refine (jR HSR.out _ _ (qH nb) mM (uB HBR.out B2.out _)).mono ?_;rintro e w4 ⟨rfl,hb4⟩;have HB4:=h! (HW.out.trans (hb4.mono HW.out.size));clear hb4))
  go_ret
  have e1:=H0.out
  have e2:=H1.out
  have e3:(val == -1) = !(val != -1):=by simp [bne]
  have e5:(n == 1) = !((n:Int) != 1):=by rw [show (n == 1)=((n:Int) == 1) by (rw [bU];simp;try omega)];simp [bne]
  rw [HV.out] at e3
  rw [HL.out] at e5
  first
   | exact ⟨by rw [HR.out,mL,e5];(try rw [e3]);simp at e1 e2 ⊢;try omega,HB4.out⟩
   | exact ⟨by rw [HR.out,e5];(try rw [e3]);simp at e1 e2 ⊢;try omega,HW.out⟩
theorem aD5 {w:World} {bc bm:Nat} {vp:Value} {ab:Option Addr} {nb cb:Nat} {ar ce:Int} {val N:Int} {to:List Int} {n:Nat} {at_:Option Addr} {ct:Nat}
  (hb:Box w bc (chk vp (.slice ab nb cb) ar ce bm)) (hn:n=to.length) (hs:Ints w (.slice at_ n ct) to) :
  Calls Tryz.prog 182 #[.pointer (some ⟨bc,0,none⟩),.agg #[.int .i64 2,.int .i64 val,.slice at_ n ct,.int .i64 N]] w fun e w'=>e = .returned (.bool (iM nb ⟨2,val,to,N⟩))/\Below w.heap.size w w':=by
 have HBC:=h! hb
 have HS:=h! hs
 have HN:=h! hn
 obtain ⟨r,hr⟩ : ∃ r,r=iM nb ⟨2,val,to,N⟩:=⟨_,rfl⟩
 have HR:Hid (r=((to.all fun b=>decide (1 <= b) && decide (b < (nb:Int))) && (n == 2 && N == 0))):=h! (by rw [hr,hn];unfold iM;simp)
 rw [<-hr]
 clear hb hs hn hr
 have hmm:=@run_makeMap Tryz.prog
 go_enter Tryz.func182,Tryz.ntmps182
 go_upto_region 1 with (fail)
 have hA_:=(Below.refl w.heap.size w).alloc (aA _) (.cells #[.pointer (some ⟨bc,0,none⟩)] 201)
 have HW:=h! hA_
 clear hA_
 have B2:=h! (Box.new w #[.pointer (some ⟨bc,0,none⟩)] 201)
 have hz0_:(w.alloc (.cells #[.pointer (some ⟨bc,0,none⟩)] 201)).heap.size=w.heap.size+1:=World.size_alloc _ _
 generalize w.alloc (.cells #[.pointer (some ⟨bc,0,none⟩)] 201)=wv0 at *
 have hA_:=(Below.refl wv0.heap.size wv0).alloc (aA _) (.cells #[.int .i64 2,.int .i64 val,.slice at_ n ct,.int .i64 N] 61)
 replace B2:=h! (B2.out.later hA_)
 replace HW:=h! (HW.out.trans (hA_.mono HW.out.size))
 clear hA_
 have B3:=h! (Box.new wv0 #[.int .i64 2,.int .i64 val,.slice at_ n ct,.int .i64 N] 61)
 rw [hz0_] at B3
 clear hz0_
 generalize wv0.alloc (.cells #[.int .i64 2,.int .i64 val,.slice at_ n ct,.int .i64 N] 61)=wv at *
 obtain ⟨lB2,cB2,fB2⟩:=B2.out
 obtain ⟨lB3,cB3,fB3⟩:=B3.out
 have HI:=h! (IMap.new wv)
 have HTU:=h! (Turn.refl [wv.heap.size] (wv.alloc (.map #[] 0)))
 have HLV:=h! HW.out.size
 have HL3:=h! B3.out.lt
 have HL2:=h! B2.out.lt
 clear lB2 cB2 fB2 lB3 cB3 fB3
 go_upto_region 2 with (with_reducible refine fT (q:=.i64) (b:=wv.heap.size) rfl _ _ _ _ (.inr rfl) Tryz.underlying93 Tryz.underlying3 rfl HI.out rfl ?_;intro w2 hm2 _ ht2;replace HI:=h! hm2;replace HTU:=h! (HTU.out.trans ht2);clear hm2 ht2)
 clear hmm
 replace HI:Hid (IMap w2 wv.heap.size jB):=h! (by rw [<-kY];exact HI.out)
 have hA0:Below wv.heap.size wv (wv.alloc (.map #[] 0)):=(Below.refl _ _).alloc (aA _) _
 have hb2:Below wv.heap.size wv w2:=hA0.trans (HTU.out.below (by simp) (fun x hx=>by simp at hx;omega))
 clear HTU hA0
 obtain ⟨lB2,cB2,fB2⟩:=B2.out
 obtain ⟨lB3,cB3,fB3⟩:=B3.out
 clear lB2 cB2 fB2 lB3 cB3 fB3
 replace B2:=h! (B2.out.later hb2)
 replace B3:=h! (B3.out.later hb2)
 replace HW:=h! (HW.out.trans (hb2.mono HW.out.size))
 clear hb2
 obtain ⟨lB2,cB2,fB2⟩:=B2.out
 obtain ⟨lB3,cB3,fB3⟩:=B3.out
 have HBR:=h! (HBC.out.later HW.out)
 have HSR:=h! (HS.out.below HW.out)
 have HMG:Hid (mget jB 2=some (.int .i64 2)):=h! (by kernel_rfl)
 cases hN0:decide (N < 0) <;> cases hN1:decide (0 < N) <;> cases hv:(val != -1) <;> cases hl:((n:Int) != 2)
 all_goals
  have H0:=h! hN0
  have H1:=h! hN1
  have HV:=h! hv
  have HL:=h! hl
  go_wp2_with (first
   | (at_lookup;refine fK (q:=.i64) (z:=.int .i64 0) (b:=wv.heap.size) (mm:=jB) (y:=2) rfl _ _ _ rfl Tryz.underlying93 Tryz.underlying3 (gP _) rfl HI.out rfl ?_;rw [HMG.out])
   | (go_at_call 105;refine (jR HSR.out _ _ (qH nb) mM (uB HBR.out B2.out _)).mono ?_;rintro e w4 ⟨rfl,hb4⟩;have HB4:=h! (HW.out.trans (hb4.mono HW.out.size));clear hb4))
  go_ret
  have e1:=H0.out
  have e2:=H1.out
  have e3:(val == -1) = !(val != -1):=by simp [bne]
  have e5:(n == 2) = !((n:Int) != 2):=by rw [show (n == 2)=((n:Int) == 2) by (rw [bU];simp;try omega)];simp [bne]
  rw [HV.out] at e3
  rw [HL.out] at e5
  first
   | exact ⟨by rw [HR.out,mL,e5];(try rw [e3]);simp at e1 e2 ⊢;try omega,HB4.out⟩
   | exact ⟨by rw [HR.out,e5];(try rw [e3]);simp at e1 e2 ⊢;try omega,HW.out⟩
theorem aD6 {w:World} {bc bm:Nat} {vp:Value} {ab:Option Addr} {nb cb:Nat} {ar ce:Int} {val N:Int} {to:List Int} {n:Nat} {at_:Option Addr} {ct:Nat}
  (hb:Box w bc (chk vp (.slice ab nb cb) ar ce bm)) (hn:n=to.length) (hs:Ints w (.slice at_ n ct) to) :
  Calls Tryz.prog 182 #[.pointer (some ⟨bc,0,none⟩),.agg #[.int .i64 3,.int .i64 val,.slice at_ n ct,.int .i64 N]] w fun e w'=>e = .returned (.bool (iM nb ⟨3,val,to,N⟩))/\Below w.heap.size w w':=by
 have HBC:=h! hb
 have HS:=h! hs
 have HN:=h! hn
 obtain ⟨r,hr⟩ : ∃ r,r=iM nb ⟨3,val,to,N⟩:=⟨_,rfl⟩
 have HR:Hid (r=((to.all fun b=>decide (1 <= b) && decide (b < (nb:Int))) && (n == 0 && N == 0))):=h! (by rw [hr,hn];unfold iM;simp)
 rw [<-hr]
 clear hb hs hn hr
 have hmm:=@run_makeMap Tryz.prog
 go_enter Tryz.func182,Tryz.ntmps182
 go_upto_region 1 with (fail)
 have hA_:=(Below.refl w.heap.size w).alloc (aA _) (.cells #[.pointer (some ⟨bc,0,none⟩)] 201)
 have HW:=h! hA_
 clear hA_
 have B2:=h! (Box.new w #[.pointer (some ⟨bc,0,none⟩)] 201)
 have hz0_:(w.alloc (.cells #[.pointer (some ⟨bc,0,none⟩)] 201)).heap.size=w.heap.size+1:=World.size_alloc _ _
 generalize w.alloc (.cells #[.pointer (some ⟨bc,0,none⟩)] 201)=wv0 at *
 have hA_:=(Below.refl wv0.heap.size wv0).alloc (aA _) (.cells #[.int .i64 3,.int .i64 val,.slice at_ n ct,.int .i64 N] 61)
 replace B2:=h! (B2.out.later hA_)
 replace HW:=h! (HW.out.trans (hA_.mono HW.out.size))
 clear hA_
 have B3:=h! (Box.new wv0 #[.int .i64 3,.int .i64 val,.slice at_ n ct,.int .i64 N] 61)
 rw [hz0_] at B3
 clear hz0_
 generalize wv0.alloc (.cells #[.int .i64 3,.int .i64 val,.slice at_ n ct,.int .i64 N] 61)=wv at *
 obtain ⟨lB2,cB2,fB2⟩:=B2.out
 obtain ⟨lB3,cB3,fB3⟩:=B3.out
 have HI:=h! (IMap.new wv)
 have HTU:=h! (Turn.refl [wv.heap.size] (wv.alloc (.map #[] 0)))
 have HLV:=h! HW.out.size
 have HL3:=h! B3.out.lt
 have HL2:=h! B2.out.lt
 clear lB2 cB2 fB2 lB3 cB3 fB3
 go_upto_region 2 with (with_reducible refine fT (q:=.i64) (b:=wv.heap.size) rfl _ _ _ _ (.inr rfl) Tryz.underlying93 Tryz.underlying3 rfl HI.out rfl ?_;intro w2 hm2 _ ht2;replace HI:=h! hm2;replace HTU:=h! (HTU.out.trans ht2);clear hm2 ht2)
 clear hmm
 replace HI:Hid (IMap w2 wv.heap.size jB):=h! (by rw [<-kY];exact HI.out)
 have hA0:Below wv.heap.size wv (wv.alloc (.map #[] 0)):=(Below.refl _ _).alloc (aA _) _
 have hb2:Below wv.heap.size wv w2:=hA0.trans (HTU.out.below (by simp) (fun x hx=>by simp at hx;omega))
 clear HTU hA0
 obtain ⟨lB2,cB2,fB2⟩:=B2.out
 obtain ⟨lB3,cB3,fB3⟩:=B3.out
 clear lB2 cB2 fB2 lB3 cB3 fB3
 replace B2:=h! (B2.out.later hb2)
 replace B3:=h! (B3.out.later hb2)
 replace HW:=h! (HW.out.trans (hb2.mono HW.out.size))
 clear hb2
 obtain ⟨lB2,cB2,fB2⟩:=B2.out
 obtain ⟨lB3,cB3,fB3⟩:=B3.out
 have HBR:=h! (HBC.out.later HW.out)
 have HSR:=h! (HS.out.below HW.out)
 have HMG:Hid (mget jB 3=some (.int .i64 0)):=h! (by kernel_rfl)
 cases hN0:decide (N < 0) <;> cases hN1:decide (0 < N) <;> cases hv:(val != -1) <;> cases hl:((n:Int) != 0)
 all_goals
  have H0:=h! hN0
  have H1:=h! hN1
  have HV:=h! hv
  have HL:=h! hl
  go_wp2_with (first
   | (at_lookup;refine fK (q:=.i64) (z:=.int .i64 0) (b:=wv.heap.size) (mm:=jB) (y:=3) rfl _ _ _ rfl Tryz.underlying93 Tryz.underlying3 (gP _) rfl HI.out rfl ?_;rw [HMG.out])
   | (go_at_call 105;refine (jR HSR.out _ _ (qH nb) mM (uB HBR.out B2.out _)).mono ?_;rintro e w4 ⟨rfl,hb4⟩;have HB4:=h! (HW.out.trans (hb4.mono HW.out.size));clear hb4))
  go_ret
  have e1:=H0.out
  have e2:=H1.out
  have e3:(val == -1) = !(val != -1):=by simp [bne]
  have e5:(n == 0) = !((n:Int) != 0):=by rw [show (n == 0)=((n:Int) == 0) by (rw [bU];simp;try omega)];simp [bne]
  rw [HV.out] at e3
  rw [HL.out] at e5
  first
   | exact ⟨by rw [HR.out,mL,e5];(try rw [e3]);simp at e1 e2 ⊢;try omega,HB4.out⟩
   | exact ⟨by rw [HR.out,e5];(try rw [e3]);simp at e1 e2 ⊢;try omega,HW.out⟩
theorem aD7 {w:World} {bc bm:Nat} {vp:Value} {ab:Option Addr} {nb cb:Nat} {ar ce:Int} {val N:Int} {to:List Int} {n:Nat} {at_:Option Addr} {ct:Nat}
  (hb:Box w bc (chk vp (.slice ab nb cb) ar ce bm)) (hn:n=to.length) (hs:Ints w (.slice at_ n ct) to) :
  Calls Tryz.prog 182 #[.pointer (some ⟨bc,0,none⟩),.agg #[.int .i64 4,.int .i64 val,.slice at_ n ct,.int .i64 N]] w fun e w'=>e = .returned (.bool (iM nb ⟨4,val,to,N⟩))/\Below w.heap.size w w':=by
 have HBC:=h! hb
 have HS:=h! hs
 have HN:=h! hn
 obtain ⟨r,hr⟩ : ∃ r,r=iM nb ⟨4,val,to,N⟩:=⟨_,rfl⟩
 have HR:Hid (r=((to.all fun b=>decide (1 <= b) && decide (b < (nb:Int))) && (n == 0 && val == -1 && decide (0 <= N)))):=h! (by rw [hr,hn];unfold iM;simp)
 rw [<-hr]
 clear hb hs hn hr
 have hmm:=@run_makeMap Tryz.prog
 go_enter Tryz.func182,Tryz.ntmps182
 go_upto_region 1 with (fail)
 have hA_:=(Below.refl w.heap.size w).alloc (aA _) (.cells #[.pointer (some ⟨bc,0,none⟩)] 201)
 have HW:=h! hA_
 clear hA_
 have B2:=h! (Box.new w #[.pointer (some ⟨bc,0,none⟩)] 201)
 have hz0_:(w.alloc (.cells #[.pointer (some ⟨bc,0,none⟩)] 201)).heap.size=w.heap.size+1:=World.size_alloc _ _
 generalize w.alloc (.cells #[.pointer (some ⟨bc,0,none⟩)] 201)=wv0 at *
 have hA_:=(Below.refl wv0.heap.size wv0).alloc (aA _) (.cells #[.int .i64 4,.int .i64 val,.slice at_ n ct,.int .i64 N] 61)
 replace B2:=h! (B2.out.later hA_)
 replace HW:=h! (HW.out.trans (hA_.mono HW.out.size))
 clear hA_
 have B3:=h! (Box.new wv0 #[.int .i64 4,.int .i64 val,.slice at_ n ct,.int .i64 N] 61)
 rw [hz0_] at B3
 clear hz0_
 generalize wv0.alloc (.cells #[.int .i64 4,.int .i64 val,.slice at_ n ct,.int .i64 N] 61)=wv at *
 obtain ⟨lB2,cB2,fB2⟩:=B2.out
 obtain ⟨lB3,cB3,fB3⟩:=B3.out
 have HI:=h! (IMap.new wv)
 have HTU:=h! (Turn.refl [wv.heap.size] (wv.alloc (.map #[] 0)))
 have HLV:=h! HW.out.size
 have HL3:=h! B3.out.lt
 have HL2:=h! B2.out.lt
 clear lB2 cB2 fB2 lB3 cB3 fB3
 go_upto_region 2 with (with_reducible refine fT (q:=.i64) (b:=wv.heap.size) rfl _ _ _ _ (.inr rfl) Tryz.underlying93 Tryz.underlying3 rfl HI.out rfl ?_;intro w2 hm2 _ ht2;replace HI:=h! hm2;replace HTU:=h! (HTU.out.trans ht2);clear hm2 ht2)
 clear hmm
 replace HI:Hid (IMap w2 wv.heap.size jB):=h! (by rw [<-kY];exact HI.out)
 have hA0:Below wv.heap.size wv (wv.alloc (.map #[] 0)):=(Below.refl _ _).alloc (aA _) _
 have hb2:Below wv.heap.size wv w2:=hA0.trans (HTU.out.below (by simp) (fun x hx=>by simp at hx;omega))
 clear HTU hA0
 obtain ⟨lB2,cB2,fB2⟩:=B2.out
 obtain ⟨lB3,cB3,fB3⟩:=B3.out
 clear lB2 cB2 fB2 lB3 cB3 fB3
 replace B2:=h! (B2.out.later hb2)
 replace B3:=h! (B3.out.later hb2)
 replace HW:=h! (HW.out.trans (hb2.mono HW.out.size))
 clear hb2
 obtain ⟨lB2,cB2,fB2⟩:=B2.out
 obtain ⟨lB3,cB3,fB3⟩:=B3.out
 have HBR:=h! (HBC.out.later HW.out)
 have HSR:=h! (HS.out.below HW.out)
 have HMG:Hid (mget jB 4=some (.int .i64 0)):=h! (by kernel_rfl)
 cases hN0:decide (N < 0) <;> cases hN1:decide (0 < N) <;> cases hv:(val != -1) <;> cases hl:((n:Int) != 0)
 all_goals
  have H0:=h! hN0
  have H1:=h! hN1
  have HV:=h! hv
  have HL:=h! hl
  go_wp2_with (first
   | (at_lookup;refine fK (q:=.i64) (z:=.int .i64 0) (b:=wv.heap.size) (mm:=jB) (y:=4) rfl _ _ _ rfl Tryz.underlying93 Tryz.underlying3 (gP _) rfl HI.out rfl ?_;rw [HMG.out])
   | (go_at_call 105;refine (jR HSR.out _ _ (qH nb) mM (uB HBR.out B2.out _)).mono ?_;rintro e w4 ⟨rfl,hb4⟩;have HB4:=h! (HW.out.trans (hb4.mono HW.out.size));clear hb4))
  go_ret
  have e1:=H0.out
  have e2:=H1.out
  have e3:(val == -1) = !(val != -1):=by simp [bne]
  have e5:(n == 0) = !((n:Int) != 0):=by rw [show (n == 0)=((n:Int) == 0) by (rw [bU];simp;try omega)];simp [bne]
  rw [HV.out] at e3
  rw [HL.out] at e5
  first
   | exact ⟨by rw [HR.out,mL,e5];(try rw [e3]);simp at e1 e2 ⊢;try omega,HB4.out⟩
   | exact ⟨by rw [HR.out,e5];(try rw [e3]);simp at e1 e2 ⊢;try omega,HW.out⟩
theorem aB5 {w:World} {bc:Nat} {op val N:Int} {n:Nat} {at_:Option Addr} {ct:Nat} (hno:op ≠ 1/\op ≠ 2/\op ≠ 3/\op ≠ 4) :
  Calls Tryz.prog 182 #[.pointer (some ⟨bc,0,none⟩),.agg #[.int .i64 op,.int .i64 val,.slice at_ n ct,.int .i64 N]] w fun e w'=>e = .returned (.bool false)/\Below w.heap.size w w':=by
 have HMG:Hid (mget jB op=none):=h! (by rw [oP];unfold jB;simp;omega)
 clear hno
 have hmm:=@run_makeMap Tryz.prog
 go_enter Tryz.func182,Tryz.ntmps182
 go_upto_region 1 with (fail)
 have hA_:=(Below.refl w.heap.size w).alloc (aA _) (.cells #[.pointer (some ⟨bc,0,none⟩)] 201)
 have HW:=h! hA_
 clear hA_
 have B2:=h! (Box.new w #[.pointer (some ⟨bc,0,none⟩)] 201)
 have hz0_:(w.alloc (.cells #[.pointer (some ⟨bc,0,none⟩)] 201)).heap.size=w.heap.size+1:=World.size_alloc _ _
 generalize w.alloc (.cells #[.pointer (some ⟨bc,0,none⟩)] 201)=wv0 at *
 have hA_:=(Below.refl wv0.heap.size wv0).alloc (aA _) (.cells #[.int .i64 op,.int .i64 val,.slice at_ n ct,.int .i64 N] 61)
 replace B2:=h! (B2.out.later hA_)
 replace HW:=h! (HW.out.trans (hA_.mono HW.out.size))
 clear hA_
 have B3:=h! (Box.new wv0 #[.int .i64 op,.int .i64 val,.slice at_ n ct,.int .i64 N] 61)
 rw [hz0_] at B3
 clear hz0_
 generalize wv0.alloc (.cells #[.int .i64 op,.int .i64 val,.slice at_ n ct,.int .i64 N] 61)=wv at *
 obtain ⟨lB2,cB2,fB2⟩:=B2.out
 obtain ⟨lB3,cB3,fB3⟩:=B3.out
 have HI:=h! (IMap.new wv)
 have HTU:=h! (Turn.refl [wv.heap.size] (wv.alloc (.map #[] 0)))
 have HLV:=h! HW.out.size
 have HL3:=h! B3.out.lt
 have HL2:=h! B2.out.lt
 clear lB2 cB2 fB2 lB3 cB3 fB3
 go_upto_region 2 with (with_reducible refine fT (q:=.i64) (b:=wv.heap.size) rfl _ _ _ _ (.inr rfl) Tryz.underlying93 Tryz.underlying3 rfl HI.out rfl ?_;intro w2 hm2 _ ht2;replace HI:=h! hm2;replace HTU:=h! (HTU.out.trans ht2);clear hm2 ht2)
 clear hmm
 replace HI:Hid (IMap w2 wv.heap.size jB):=h! (by rw [<-kY];exact HI.out)
 have hA0:Below wv.heap.size wv (wv.alloc (.map #[] 0)):=(Below.refl _ _).alloc (aA _) _
 have hb2:Below wv.heap.size wv w2:=hA0.trans (HTU.out.below (by simp) (fun x hx=>by simp at hx;omega))
 clear HTU hA0
 obtain ⟨lB2,cB2,fB2⟩:=B2.out
 obtain ⟨lB3,cB3,fB3⟩:=B3.out
 clear lB2 cB2 fB2 lB3 cB3 fB3
 replace B2:=h! (B2.out.later hb2)
 replace B3:=h! (B3.out.later hb2)
 replace HW:=h! (HW.out.trans (hb2.mono HW.out.size))
 clear hb2
 obtain ⟨lB2,cB2,fB2⟩:=B2.out
 obtain ⟨lB3,cB3,fB3⟩:=B3.out
 go_wp2_with (at_lookup;refine fK (q:=.i64) (z:=.int .i64 0) (b:=wv.heap.size) (mm:=jB) (y:=op) rfl _ _ _ rfl Tryz.underlying93 Tryz.underlying3 (gP _) rfl HI.out rfl ?_;rw [HMG.out])
 go_ret
 exact ⟨rfl,HW.out⟩
theorem aFM {w:World} {bc bm:Nat} {vp:Value} {ab:Option Addr} {nb cb:Nat} {ar ce:Int} {t:TermD} {at_:Option Addr} {ct:Nat}
  (hb:Box w bc (chk vp (.slice ab nb cb) ar ce bm)) (hs:Ints w (.slice at_ t.to.length ct) t.to) :
  Calls Tryz.prog 182 #[.pointer (some ⟨bc,0,none⟩),.agg (aBS t at_ ct)] w fun e w'=>e = .returned (.bool (iM nb t))/\Below w.heap.size w w':=by
 obtain ⟨op,val,to,N⟩:=t
 unfold aBS
 by_cases h1:op=1
 ·subst h1;exact aD4 hb rfl hs
 ·by_cases h2:op=2
  ·subst h2;exact aD5 hb rfl hs
  by_cases h3:op=3
  ·subst h3;exact aD6 hb rfl hs
  by_cases h4:op=4
  ·subst h4;exact aD7 hb rfl hs
  refine (aB5 ⟨h1,h2,h3,h4⟩).mono fun e w' ⟨he,hw⟩=>⟨?_,hw⟩
  rw [he]
  have:iM nb ⟨op,val,to,N⟩=false:=by
   unfold iM
   simp [h1,h2,h3,h4]
  rw [this]
theorem aD8 {w:World}:Calls Tryz.prog 183 #[.int .i64 17] w (ShpR 17 w):=by
 go_enter Tryz.func183,Tryz.ntmps183
 go_upto_region 1 with (fail)
 have hA_:=(Below.refl w.heap.size w).alloc (aA _) (.cells #[.int .i64 0,.slice none 0 0,.int .i64 0] 238)
 have HW:=h! hA_
 clear hA_
 have B2:=h! (Box.new w #[.int .i64 0,.slice none 0 0,.int .i64 0] 238)
 generalize w.alloc (.cells #[.int .i64 0,.slice none 0 0,.int .i64 0] 238)=wv at *
 obtain ⟨lB2,cB2,fB2⟩:=B2.out
 go_wp2_with fail
 refine (iH 2 1 ⟨by decide,by decide⟩ (by decide)).mono ?_
 rintro e w1 ⟨u,rfl,hu,hb1⟩
 obtain ⟨ua,uc,rfl⟩:=hu.ints.form
 simp only [aP] at hu ⊢
 have HU:=h! hu
 have HL:=h! lB2
 clear hu
 clear lB2 cB2 fB2
 replace B2:=h! (B2.out.later hb1)
 replace HW:=h! (HW.out.trans (hb1.mono HW.out.size))
 clear hb1
 obtain ⟨lB2,cB2,fB2⟩:=B2.out
 go_wp2_with fail
 refine (iH 1 2 ⟨by decide,by decide⟩ (by decide)).mono ?_
 rintro e w2 ⟨u2,rfl,hu2,hb2⟩
 obtain ⟨ua2,uc2,rfl⟩:=hu2.ints.form
 simp only [aP] at hu2 ⊢
 have HU2:=h! hu2
 clear hu2
 replace HU:=h! (HU.out.later hb2)
 clear lB2 cB2 fB2
 replace B2:=h! (B2.out.later hb2)
 replace HW:=h! (HW.out.trans (hb2.mono HW.out.size))
 clear hb2
 obtain ⟨lB2,cB2,fB2⟩:=B2.out
 have OL:Hid (Own w2 wv.heap.size [w.heap.size] 3 1 (.slice ua 1 uc) 1 [.int .i64 2]):=h! ⟨HU.out.own,fun g hg hm=>by
  have:=(HU.out.fresh g hg).1
  have:=HL.out
  simp at hm;omega⟩
 have HS:=h! HU.out.own
 have hsz:wv.heap.size <= w2.heap.size:=by
  rcases HU.out.own.2 with ⟨_,h⟩ | ⟨g,cap,cur,hv,hg,hh,_⟩
  ·simp at h
  have:=(aL.1 hh).1;omega
 have HZ:=h! hsz
 clear hsz
 go_wp2_with (at_builtin;refine fE rfl _ _ 22 3 rfl nJ rfl rfl OL.out HU2.out.ints.1 (oO _) (by unfold maxLen;simp) (by simp) HZ.out (by intro b hb;simp at hb;omega) ?_;intro v3 w3 hO3 hBs3 hb3;obtain ⟨a3,c3,rfl⟩:=hO3.form;simp only [aP] at hO3 ⊢;have HO3:=h! hO3;have B3:=h! (hBs3 _ _ (by simp) B2.out);have HW3:=h! (HW.out.trans (hb3.mono (cA HL.out)));clear hO3 hBs3 hb3;obtain ⟨l3,c3',f3⟩:=B3.out;clear lB2 cB2 fB2)
 have HN:Hid (New 3 wv w3 (.slice a3 3 c3) [2,1,1]):=h! ⟨HO3.out.row,by simp,fun x hx=>by simp at hx;rcases hx with rfl | rfl | rfl <;> exact ⟨by decide,by decide⟩⟩
 exact bodyPost_ret (v:=.tuple #[.agg #[.int .i64 1,.slice a3 3 c3,.int .i64 0],.bool true]) (by simp [results,Tryz.results183,go_sem, *]) rfl
  ⟨_,rfl,(((HN.out.other _ (.inl HL.out)).other _ (.inl HL.out)).other _ (.inl HL.out)).from (cA HL.out),((HW3.out.setCell (by simp) _).setCell (by simp) _).setCell (by simp) _⟩
theorem aD9 {w:World} {op:Int} (h:op < 1 \/ 25 < op):Calls Tryz.prog 183 #[.int .i64 op] w (ShpR op w):=by
 have HS:=h! (show shp op=none by unfold shp;repeat (rw [if_neg (by omega)]))
 have e1:(op == 1)=false:=by simp;omega
 have e2:(op == 2)=false:=by simp;omega
 have e13:(op == 13)=false:=by simp;omega
 have e14:(op == 14)=false:=by simp;omega
 have e15:(op == 15)=false:=by simp;omega
 have e16:(op == 16)=false:=by simp;omega
 have e17:(op == 17)=false:=by simp;omega
 have e18:(op == 18)=false:=by simp;omega
 have e19:(op == 19)=false:=by simp;omega
 have e21:(op == 21)=false:=by simp;omega
 have e20:(op == 20)=false:=by simp;omega
 have e22:(op == 22)=false:=by simp;omega
 have e23:(op == 23)=false:=by simp;omega
 have e24:(op == 24)=false:=by simp;omega
 have e25:(op == 25)=false:=by simp;omega
 have r1:(decide (3 <= op) && decide (op <= 12))=false:=by simp;omega
 have HR:Hid (decide (3 <= op)=false \/ (decide (3 <= op)=true/\decide (op <= 12)=false)):=h! (by simp;omega)
 clear h r1
 rcases HR.out with r1 | ⟨r1,r2⟩
 all_goals
  go_enter Tryz.func183,Tryz.ntmps183
  go_upto_region 1 with (fail)
  have hA_:=(Below.refl w.heap.size w).alloc (aA _) (.cells #[.int .i64 0,.slice none 0 0,.int .i64 0] 238)
  have HW:=h! hA_
  clear hA_
  have B2:=h! (Box.new w #[.int .i64 0,.slice none 0 0,.int .i64 0] 238)
  generalize w.alloc (.cells #[.int .i64 0,.slice none 0 0,.int .i64 0] 238)=wv at *
  obtain ⟨lB2,cB2,fB2⟩:=B2.out
  go_wp2
  exact bodyPost_ret (v:=.tuple #[.agg #[.int .i64 0,.slice none 0 0,.int .i64 0],.bool false]) (by simp [results,Tryz.results183,go_sem, *]) rfl
   ⟨.slice none 0 0,by unfold shp0;rw [HS.out];rfl,by unfold shp0;rw [HS.out];exact New.nil,((HW.out.setCell (by simp) _).setCell (by simp) _).setCell (by simp) _⟩
theorem zT {w:World} (op:Int):Calls Tryz.prog 183 #[.int .i64 op] w (ShpR op w):=by
 by_cases h:op < 1 \/ 25 < op
 ·exact aD9 h
 obtain rfl | rfl | rfl | rfl | rfl | rfl | rfl | rfl | rfl | rfl | rfl | rfl | rfl | rfl | rfl | rfl | rfl | rfl | rfl | rfl | rfl | rfl | rfl | rfl | rfl:op=1 \/ op=2 \/ op=3 \/ op=4 \/ op=5 \/ op=6 \/ op=7 \/ op=8 \/ op=9 \/ op=10 \/ op=11 \/ op=12 \/ op=13 \/ op=14 \/ op=15 \/ op=16 \/ op=17 \/ op=18 \/ op=19 \/ op=20 \/ op=21 \/ op=22 \/ op=23 \/ op=24 \/ op=25:=by omega
 ·exact aE8
 ·exact aE9
 ·exact aFA
 ·exact aFB
 ·exact aFC
 ·exact aFD
 ·exact aFE
 ·exact aFF
 ·exact aFG
 ·exact aD1
 ·exact aD2
 ·exact aD3
 ·exact aDR
 ·exact aDS
 ·exact aDT
 ·exact aDU
 ·exact aD8
 ·exact aDP
 ·exact aDV
 ·exact aDX
 ·exact aDW
 ·exact aDY
 ·exact aDZ
 ·exact aDQ
 exact aD0
theorem eR {B:Nat} {a w:World} (h:Below B a w) (n:Nat):Below B a (w.drewN n):=⟨h.os,h.tape,h.output,h.size,h.block⟩
theorem uC {W:World} {v:Value} {bs:List BlockD} (h:eT gD 6 W v bs):∀ b ∈ bs,1 <= gK b/\gK b <= 35184372088833:=by
 intro b hb
 obtain ⟨cs,_,h2⟩:=h
 obtain ⟨j,hj,rfl⟩:=dM hb
 obtain ⟨v,u,t,_,h3,h4,_⟩:=h2 j _ (aC hj)
 have:=h3.le
 have:=h4.le
 unfold gK;omega
theorem zU (l:List Int) (a b:Int) (h:∀ x ∈ l,a <= x/\x <= b):a * l.length <= l.sum/\l.sum <= b * l.length:=by
 induction l with
 | nil=>simp
 | cons x l ih =>
  have h1:=h x (by simp)
  have h2:=ih fun y hy=>h y (by simp [hy])
  simp only [List.sum_cons,aZ,Int.natCast_add,Int.natCast_one,Int.mul_add,Int.mul_one]
  omega
theorem pI {W:World} {v:Value} {bs:List BlockD} (h:eT gD 6 W v bs) (j:Nat) (hj:j <= 512):0 <= ((bs.take j).map gK).sum/\((bs.take j).map gK).sum <= 18014398509482496:=by
 have h1:=zU ((bs.take j).map gK) 1 35184372088833 (fun x hx=>by
  obtain ⟨b,hb,rfl⟩:=aX.1 hx
  exact uC h b (cQ hb))
 rw [bE,aR] at h1
 omega
theorem uD (bs:List BlockD) (j:Nat) (x:BlockD) (h:bs[j]? = some x):((bs.take (j+1)).map gK).sum=((bs.take j).map gK).sum+gK x:=by
 rw [cU,h,Option.toList_some,bC,List.sum_append];simp
theorem zV {w:World} {bc:Nat} {vb:Value} {bs:List BlockD} (h3:w.cell? ⟨bc,3,none⟩=some vb) (hB:eT gD 6 w vb bs) (hn:bs.length <= 512) :
  Calls Tryz.prog 179 #[.pointer (some ⟨bc,0,none⟩)] w fun e w'=>e = .returned (.int .i64 ((bs.map gK).sum))/\Below w.heap.size w w':=by
 have HSZ:=h! hB
 obtain ⟨a,cap,b,off,rfl,hc,hm,hl,ha,hx⟩:=eU hB
 have HA:=h! ha
 have HX:=h! hx
 clear ha hx hB hl
 obtain ⟨n,hnn⟩ : ∃ n,n=bs.length:=⟨_,rfl⟩
 rw [<-hnn] at h3 hc hn HA
 have HN:=h! hnn
 clear hnn
 go_enter Tryz.func179,Tryz.ntmps179
 go_wp2
 go_loopw [3,12] (fun s i wr => ∃ j:Nat,j <= n/\i = .int .i64 j/\s = .int .i64 ((bs.take j).map gK).sum/\Below w.heap.size w wr) (fun _ i _=>n - (intOf i).toNat)
 case atStart=>exact ⟨0,aJ _,rfl,rfl,Below.refl _ _⟩
 case round =>
  obtain ⟨j,hj,rfl,rfl,hW⟩:=hrel
  have HW:=h! hW
  clear hW
  by_cases hlt:j < n
  ·have hne:0 < n:=by omega
   obtain ⟨rfl,hbw⟩:=HA.out hne
   have hjx:bs[j]? = some bs[j]:=aC (by have:=HN.out;omega)
   obtain ⟨x,hxe⟩ : ∃ x,x=bs[j]'(by have:=HN.out;omega):=⟨_,rfl⟩
   rw [<-hxe] at hjx
   clear hxe
   obtain ⟨ap,ai,at_,cp,ci,ct,hC⟩:=HX.out j x hjx
   obtain ⟨c0,c1,c2,c3,c4,c5,h6,h7,h8,h9,h10,h11⟩:=hC.below HW.out hbw
   have hs0:=pI HSZ.out j (by omega)
   have hl1:=h6.le
   have hl2:=h7.le
   have HSN:=h! (uD bs j x hjx)
   have hsx:gK x=x.phis.length+x.code.length+1:=rfl
   rw [hsx] at HSN
   clear h6 h7 h8 h9 h10 h11 hC hjx hsx
   generalize ((bs.take j).map gK).sum=s at *
   go_wp2
   go_roundw
   case rel=>exact ⟨j+1,hlt,by go_num,by rw [HSN.out],HW.out.alloc HW.out.size _⟩
   simp [intOf];omega
  obtain rfl:j=n:=by omega
  go_wp2
  go_ret
  rw [aH (by have:=HN.out;omega)]
  exact ⟨rfl,HW.out⟩
end Go.Proofs.YtagabiidbbhhmaaGreat
