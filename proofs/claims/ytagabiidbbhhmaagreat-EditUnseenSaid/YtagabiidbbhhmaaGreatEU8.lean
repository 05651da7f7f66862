/- Part 8. -/
import Derived.Test.YtagabiidbbhhmaaGreatEU7
namespace Go.Proofs.YtagabiidbbhhmaaGreat
set_option maxHeartbeats 3200000
set_option linter.all false
open Go.RowKit
def qB (nb:Nat) (b:Int):Bool := !numB nb b || b == 0
theorem mM (nb:Nat) (l:List Int):(!(l.any (qB nb)))=l.all fun b=>decide (1 <= b) && decide (b < (nb:Int)):=by
 rw [List.not_any_eq_all_not]
 congr 1
 funext b
 unfold qB numB
 rw [bU]
 simp only [Bool.not_or,Bool.not_not,aK,decide_eq_true_eq,Bool.not_eq_true',beq_eq_false_iff_ne,ne_eq]
 omega
theorem uG {w:World} {bc bb:Nat} {vp:Value} {ab:Option Addr} {nb cb:Nat} {ar ce:Int} {bm:Nat} (hb:Box w bc (chk vp (.slice ab nb cb) ar ce bm)) (hc:Box w bb #[.pointer (some ⟨bc,0,none⟩)]) (xs:List Int) :
  Asks 207 #[.pointer (some ⟨bb,0,none⟩)] w xs (qB nb):=by
 intro W x hW _
 show Calls Tryz.prog 207 #[.int .i64 x,.pointer (some ⟨bb,0,none⟩)] W _
 have HB:=h! (hb.later hW)
 have h0:=(hc.later hW).at 0 rfl
 clear hb hc hW
 cases h1:numB nb x <;> cases h2:(x == 0)
 all_goals
  have H1:=h! h1
  have HR:Hid (qB nb x=_):=h! (by unfold qB;rw [h1,h2])
  clear h1
  go_enter Tryz.func207,Tryz.ntmps207
  go_wp2_with (go_at_call 205;refine (sD HB.out x _ H1.out).mono ?_;rintro e w1 ⟨rfl,rfl⟩)
  go_ret
  exact ⟨by rw [HR.out];rfl,Below.refl _ _⟩
theorem mN:Enters Tryz.prog 207:=enters_of Tryz.func207 (by kernel_rfl) rfl
def jH:List (Int × Value):=[(1,.int .i64 1),(2,.int .i64 2),(3,.int .i64 0),(4,.int .i64 0)]
theorem lD:mput (mput (mput (mput [] 1 (.int .i64 1)) 2 (.int .i64 2)) 3 (.int .i64 0)) 4 (.int .i64 0)=jH:=by kernel_rfl
theorem aDM {w:World} {bc bm:Nat} {vp:Value} {ab:Option Addr} {nb cb:Nat} {ar ce:Int} {val N:Int} {to:List Int} {n:Nat} {at_:Option Addr} {ct:Nat}
  (hb:Box w bc (chk vp (.slice ab nb cb) ar ce bm)) (hn:n=to.length) (hs:Ints w (.slice at_ n ct) to) :
  Calls Tryz.prog 182 #[.pointer (some ⟨bc,0,none⟩),.agg #[.int .i64 1,.int .i64 val,.slice at_ n ct,.int .i64 N]] w fun e w'=>e = .returned (.bool (iR nb ⟨1,val,to,N⟩))/\Below w.heap.size w w':=by
 have az:=h! hb
 have HS:=h! hs
 have HN:=h! hn
 obtain ⟨r,hr⟩ : ∃ r,r=iR nb ⟨1,val,to,N⟩:=⟨_,rfl⟩
 have HR:Hid (r=((to.all fun b=>decide (1 <= b) && decide (b < (nb:Int))) && (n == 1 && val == -1 && N == 0))):=h! (by rw [hr,hn];unfold iR;simp)
 rw [<-hr]
 clear hb hs hn hr
 have ba:=@run_makeMap Tryz.prog
 go_enter Tryz.func182,Tryz.ntmps182
 go_upto_region 1 with (fail)
 have aa:=(Below.refl w.heap.size w).alloc (aC _) (.cells #[.pointer (some ⟨bc,0,none⟩)] 201)
 have HW:=h! aa
 clear aa
 have B2:=h! (Box.new w #[.pointer (some ⟨bc,0,none⟩)] 201)
 have ac:(w.alloc (.cells #[.pointer (some ⟨bc,0,none⟩)] 201)).heap.size=w.heap.size+1:=World.size_alloc _ _
 generalize w.alloc (.cells #[.pointer (some ⟨bc,0,none⟩)] 201)=ag at *
 have aa:=(Below.refl ag.heap.size ag).alloc (aC _) (.cells #[.int .i64 1,.int .i64 val,.slice at_ n ct,.int .i64 N] 61)
 replace B2:=h! (B2.out.later aa)
 replace HW:=h! (HW.out.trans (aa.mono HW.out.size))
 clear aa
 have B3:=h! (Box.new ag #[.int .i64 1,.int .i64 val,.slice at_ n ct,.int .i64 N] 61)
 rw [ac] at B3
 clear ac
 generalize ag.alloc (.cells #[.int .i64 1,.int .i64 val,.slice at_ n ct,.int .i64 N] 61)=wv at *
 obtain ⟨ah,ad,aj⟩:=B2.out
 obtain ⟨ai,af,ae⟩:=B3.out
 have HI:=h! (IMap.new wv)
 have al:=h! (Turn.refl [wv.heap.size] (wv.alloc (.map #[] 0)))
 have HLV:=h! HW.out.size
 have HL3:=h! B3.out.lt
 have HL2:=h! B2.out.lt
 clear ah ad aj ai af ae
 go_upto_region 2 with (with_reducible refine fJ (q:=.i64) (b:=wv.heap.size) rfl _ _ _ _ (.inr rfl) Tryz.underlying93 Tryz.underlying3 rfl HI.out rfl ?_;intro w2 ao _ an;replace HI:=h! ao;replace al:=h! (al.out.trans an);clear ao an)
 clear ba
 replace HI:Hid (IMap w2 wv.heap.size jH):=h! (by rw [<-lD];exact HI.out)
 have am:Below wv.heap.size wv (wv.alloc (.map #[] 0)):=(Below.refl _ _).alloc (aC _) _
 have ak:Below wv.heap.size wv w2:=am.trans (al.out.below (by simp) (fun x hx=>by simp at hx;omega))
 clear al am
 obtain ⟨ah,ad,aj⟩:=B2.out
 obtain ⟨ai,af,ae⟩:=B3.out
 clear ah ad aj ai af ae
 replace B2:=h! (B2.out.later ak)
 replace B3:=h! (B3.out.later ak)
 replace HW:=h! (HW.out.trans (ak.mono HW.out.size))
 clear ak
 obtain ⟨ah,ad,aj⟩:=B2.out
 obtain ⟨ai,af,ae⟩:=B3.out
 have aq:=h! (az.out.later HW.out)
 have aw:=h! (HS.out.below HW.out)
 have ay:Hid (mget jH 1=some (.int .i64 1)):=h! (by kernel_rfl)
 cases hN0:decide (N < 0) <;> cases hN1:decide (0 < N) <;> cases hv:(val != -1) <;> cases hl:((n:Int) != 1)
 all_goals
  have H0:=h! hN0
  have H1:=h! hN1
  have HV:=h! hv
  have HL:=h! hl
  go_wp2_with (first
   | (at_lookup;refine fQ (q:=.i64) (z:=.int .i64 0) (b:=wv.heap.size) (mm:=jH) (y:=1) rfl _ _ _ rfl Tryz.underlying93 Tryz.underlying3 (fY _) rfl HI.out rfl ?_;rw [ay.out])
   | (go_at_call 105;refine (kA aw.out _ _ (qB nb) mN (uG aq.out B2.out _)).mono ?_;rintro e w4 ⟨rfl,ap⟩;have ax:=h! (HW.out.trans (ap.mono HW.out.size));clear ap))
  go_ret
  have e1:=H0.out
  have e2:=H1.out
  have e3:(val == -1) = !(val != -1):=by simp [bne]
  have e5:(n == 1) = !((n:Int) != 1):=by rw [show (n == 1)=((n:Int) == 1) by (rw [bU];simp;try omega)];simp [bne]
  rw [HV.out] at e3
  rw [HL.out] at e5
  first
   | exact ⟨by rw [HR.out,mM,e5];(try rw [e3]);simp at e1 e2 ⊢;try omega,ax.out⟩
   | exact ⟨by rw [HR.out,e5];(try rw [e3]);simp at e1 e2 ⊢;try omega,HW.out⟩
theorem aDN {w:World} {bc bm:Nat} {vp:Value} {ab:Option Addr} {nb cb:Nat} {ar ce:Int} {val N:Int} {to:List Int} {n:Nat} {at_:Option Addr} {ct:Nat}
  (hb:Box w bc (chk vp (.slice ab nb cb) ar ce bm)) (hn:n=to.length) (hs:Ints w (.slice at_ n ct) to) :
  Calls Tryz.prog 182 #[.pointer (some ⟨bc,0,none⟩),.agg #[.int .i64 2,.int .i64 val,.slice at_ n ct,.int .i64 N]] w fun e w'=>e = .returned (.bool (iR nb ⟨2,val,to,N⟩))/\Below w.heap.size w w':=by
 have az:=h! hb
 have HS:=h! hs
 have HN:=h! hn
 obtain ⟨r,hr⟩ : ∃ r,r=iR nb ⟨2,val,to,N⟩:=⟨_,rfl⟩
 have HR:Hid (r=((to.all fun b=>decide (1 <= b) && decide (b < (nb:Int))) && (n == 2 && N == 0))):=h! (by rw [hr,hn];unfold iR;simp)
 rw [<-hr]
 clear hb hs hn hr
 have ba:=@run_makeMap Tryz.prog
 go_enter Tryz.func182,Tryz.ntmps182
 go_upto_region 1 with (fail)
 have aa:=(Below.refl w.heap.size w).alloc (aC _) (.cells #[.pointer (some ⟨bc,0,none⟩)] 201)
 have HW:=h! aa
 clear aa
 have B2:=h! (Box.new w #[.pointer (some ⟨bc,0,none⟩)] 201)
 have ac:(w.alloc (.cells #[.pointer (some ⟨bc,0,none⟩)] 201)).heap.size=w.heap.size+1:=World.size_alloc _ _
 generalize w.alloc (.cells #[.pointer (some ⟨bc,0,none⟩)] 201)=ag at *
 have aa:=(Below.refl ag.heap.size ag).alloc (aC _) (.cells #[.int .i64 2,.int .i64 val,.slice at_ n ct,.int .i64 N] 61)
 replace B2:=h! (B2.out.later aa)
 replace HW:=h! (HW.out.trans (aa.mono HW.out.size))
 clear aa
 have B3:=h! (Box.new ag #[.int .i64 2,.int .i64 val,.slice at_ n ct,.int .i64 N] 61)
 rw [ac] at B3
 clear ac
 generalize ag.alloc (.cells #[.int .i64 2,.int .i64 val,.slice at_ n ct,.int .i64 N] 61)=wv at *
 obtain ⟨ah,ad,aj⟩:=B2.out
 obtain ⟨ai,af,ae⟩:=B3.out
 have HI:=h! (IMap.new wv)
 have al:=h! (Turn.refl [wv.heap.size] (wv.alloc (.map #[] 0)))
 have HLV:=h! HW.out.size
 have HL3:=h! B3.out.lt
 have HL2:=h! B2.out.lt
 clear ah ad aj ai af ae
 go_upto_region 2 with (with_reducible refine fJ (q:=.i64) (b:=wv.heap.size) rfl _ _ _ _ (.inr rfl) Tryz.underlying93 Tryz.underlying3 rfl HI.out rfl ?_;intro w2 ao _ an;replace HI:=h! ao;replace al:=h! (al.out.trans an);clear ao an)
 clear ba
 replace HI:Hid (IMap w2 wv.heap.size jH):=h! (by rw [<-lD];exact HI.out)
 have am:Below wv.heap.size wv (wv.alloc (.map #[] 0)):=(Below.refl _ _).alloc (aC _) _
 have ak:Below wv.heap.size wv w2:=am.trans (al.out.below (by simp) (fun x hx=>by simp at hx;omega))
 clear al am
 obtain ⟨ah,ad,aj⟩:=B2.out
 obtain ⟨ai,af,ae⟩:=B3.out
 clear ah ad aj ai af ae
 replace B2:=h! (B2.out.later ak)
 replace B3:=h! (B3.out.later ak)
 replace HW:=h! (HW.out.trans (ak.mono HW.out.size))
 clear ak
 obtain ⟨ah,ad,aj⟩:=B2.out
 obtain ⟨ai,af,ae⟩:=B3.out
 have aq:=h! (az.out.later HW.out)
 have aw:=h! (HS.out.below HW.out)
 have ay:Hid (mget jH 2=some (.int .i64 2)):=h! (by kernel_rfl)
 cases hN0:decide (N < 0) <;> cases hN1:decide (0 < N) <;> cases hv:(val != -1) <;> cases hl:((n:Int) != 2)
 all_goals
  have H0:=h! hN0
  have H1:=h! hN1
  have HV:=h! hv
  have HL:=h! hl
  go_wp2_with (first
   | (at_lookup;refine fQ (q:=.i64) (z:=.int .i64 0) (b:=wv.heap.size) (mm:=jH) (y:=2) rfl _ _ _ rfl Tryz.underlying93 Tryz.underlying3 (fY _) rfl HI.out rfl ?_;rw [ay.out])
   | (go_at_call 105;refine (kA aw.out _ _ (qB nb) mN (uG aq.out B2.out _)).mono ?_;rintro e w4 ⟨rfl,ap⟩;have ax:=h! (HW.out.trans (ap.mono HW.out.size));clear ap))
  go_ret
  have e1:=H0.out
  have e2:=H1.out
  have e3:(val == -1) = !(val != -1):=by simp [bne]
  have e5:(n == 2) = !((n:Int) != 2):=by rw [show (n == 2)=((n:Int) == 2) by (rw [bU];simp;try omega)];simp [bne]
  rw [HV.out] at e3
  rw [HL.out] at e5
  first
   | exact ⟨by rw [HR.out,mM,e5];(try rw [e3]);simp at e1 e2 ⊢;try omega,ax.out⟩
   | exact ⟨by rw [HR.out,e5];(try rw [e3]);simp at e1 e2 ⊢;try omega,HW.out⟩
theorem aDO {w:World} {bc bm:Nat} {vp:Value} {ab:Option Addr} {nb cb:Nat} {ar ce:Int} {val N:Int} {to:List Int} {n:Nat} {at_:Option Addr} {ct:Nat}
  (hb:Box w bc (chk vp (.slice ab nb cb) ar ce bm)) (hn:n=to.length) (hs:Ints w (.slice at_ n ct) to) :
  Calls Tryz.prog 182 #[.pointer (some ⟨bc,0,none⟩),.agg #[.int .i64 3,.int .i64 val,.slice at_ n ct,.int .i64 N]] w fun e w'=>e = .returned (.bool (iR nb ⟨3,val,to,N⟩))/\Below w.heap.size w w':=by
 have az:=h! hb
 have HS:=h! hs
 have HN:=h! hn
 obtain ⟨r,hr⟩ : ∃ r,r=iR nb ⟨3,val,to,N⟩:=⟨_,rfl⟩
 have HR:Hid (r=((to.all fun b=>decide (1 <= b) && decide (b < (nb:Int))) && (n == 0 && N == 0))):=h! (by rw [hr,hn];unfold iR;simp)
 rw [<-hr]
 clear hb hs hn hr
 have ba:=@run_makeMap Tryz.prog
 go_enter Tryz.func182,Tryz.ntmps182
 go_upto_region 1 with (fail)
 have aa:=(Below.refl w.heap.size w).alloc (aC _) (.cells #[.pointer (some ⟨bc,0,none⟩)] 201)
 have HW:=h! aa
 clear aa
 have B2:=h! (Box.new w #[.pointer (some ⟨bc,0,none⟩)] 201)
 have ac:(w.alloc (.cells #[.pointer (some ⟨bc,0,none⟩)] 201)).heap.size=w.heap.size+1:=World.size_alloc _ _
 generalize w.alloc (.cells #[.pointer (some ⟨bc,0,none⟩)] 201)=ag at *
 have aa:=(Below.refl ag.heap.size ag).alloc (aC _) (.cells #[.int .i64 3,.int .i64 val,.slice at_ n ct,.int .i64 N] 61)
 replace B2:=h! (B2.out.later aa)
 replace HW:=h! (HW.out.trans (aa.mono HW.out.size))
 clear aa
 have B3:=h! (Box.new ag #[.int .i64 3,.int .i64 val,.slice at_ n ct,.int .i64 N] 61)
 rw [ac] at B3
 clear ac
 generalize ag.alloc (.cells #[.int .i64 3,.int .i64 val,.slice at_ n ct,.int .i64 N] 61)=wv at *
 obtain ⟨ah,ad,aj⟩:=B2.out
 obtain ⟨ai,af,ae⟩:=B3.out
 have HI:=h! (IMap.new wv)
 have al:=h! (Turn.refl [wv.heap.size] (wv.alloc (.map #[] 0)))
 have HLV:=h! HW.out.size
 have HL3:=h! B3.out.lt
 have HL2:=h! B2.out.lt
 clear ah ad aj ai af ae
 go_upto_region 2 with (with_reducible refine fJ (q:=.i64) (b:=wv.heap.size) rfl _ _ _ _ (.inr rfl) Tryz.underlying93 Tryz.underlying3 rfl HI.out rfl ?_;intro w2 ao _ an;replace HI:=h! ao;replace al:=h! (al.out.trans an);clear ao an)
 clear ba
 replace HI:Hid (IMap w2 wv.heap.size jH):=h! (by rw [<-lD];exact HI.out)
 have am:Below wv.heap.size wv (wv.alloc (.map #[] 0)):=(Below.refl _ _).alloc (aC _) _
 have ak:Below wv.heap.size wv w2:=am.trans (al.out.below (by simp) (fun x hx=>by simp at hx;omega))
 clear al am
 obtain ⟨ah,ad,aj⟩:=B2.out
 obtain ⟨ai,af,ae⟩:=B3.out
 clear ah ad aj ai af ae
 replace B2:=h! (B2.out.later ak)
 replace B3:=h! (B3.out.later ak)
 replace HW:=h! (HW.out.trans (ak.mono HW.out.size))
 clear ak
 obtain ⟨ah,ad,aj⟩:=B2.out
 obtain ⟨ai,af,ae⟩:=B3.out
 have aq:=h! (az.out.later HW.out)
 have aw:=h! (HS.out.below HW.out)
 have ay:Hid (mget jH 3=some (.int .i64 0)):=h! (by kernel_rfl)
 cases hN0:decide (N < 0) <;> cases hN1:decide (0 < N) <;> cases hv:(val != -1) <;> cases hl:((n:Int) != 0)
 all_goals
  have H0:=h! hN0
  have H1:=h! hN1
  have HV:=h! hv
  have HL:=h! hl
  go_wp2_with (first
   | (at_lookup;refine fQ (q:=.i64) (z:=.int .i64 0) (b:=wv.heap.size) (mm:=jH) (y:=3) rfl _ _ _ rfl Tryz.underlying93 Tryz.underlying3 (fY _) rfl HI.out rfl ?_;rw [ay.out])
   | (go_at_call 105;refine (kA aw.out _ _ (qB nb) mN (uG aq.out B2.out _)).mono ?_;rintro e w4 ⟨rfl,ap⟩;have ax:=h! (HW.out.trans (ap.mono HW.out.size));clear ap))
  go_ret
  have e1:=H0.out
  have e2:=H1.out
  have e3:(val == -1) = !(val != -1):=by simp [bne]
  have e5:(n == 0) = !((n:Int) != 0):=by rw [show (n == 0)=((n:Int) == 0) by (rw [bU];simp;try omega)];simp [bne]
  rw [HV.out] at e3
  rw [HL.out] at e5
  first
   | exact ⟨by rw [HR.out,mM,e5];(try rw [e3]);simp at e1 e2 ⊢;try omega,ax.out⟩
   | exact ⟨by rw [HR.out,e5];(try rw [e3]);simp at e1 e2 ⊢;try omega,HW.out⟩
theorem aDP {w:World} {bc bm:Nat} {vp:Value} {ab:Option Addr} {nb cb:Nat} {ar ce:Int} {val N:Int} {to:List Int} {n:Nat} {at_:Option Addr} {ct:Nat}
  (hb:Box w bc (chk vp (.slice ab nb cb) ar ce bm)) (hn:n=to.length) (hs:Ints w (.slice at_ n ct) to) :
  Calls Tryz.prog 182 #[.pointer (some ⟨bc,0,none⟩),.agg #[.int .i64 4,.int .i64 val,.slice at_ n ct,.int .i64 N]] w fun e w'=>e = .returned (.bool (iR nb ⟨4,val,to,N⟩))/\Below w.heap.size w w':=by
 have az:=h! hb
 have HS:=h! hs
 have HN:=h! hn
 obtain ⟨r,hr⟩ : ∃ r,r=iR nb ⟨4,val,to,N⟩:=⟨_,rfl⟩
 have HR:Hid (r=((to.all fun b=>decide (1 <= b) && decide (b < (nb:Int))) && (n == 0 && val == -1 && decide (0 <= N)))):=h! (by rw [hr,hn];unfold iR;simp)
 rw [<-hr]
 clear hb hs hn hr
 have ba:=@run_makeMap Tryz.prog
 go_enter Tryz.func182,Tryz.ntmps182
 go_upto_region 1 with (fail)
 have aa:=(Below.refl w.heap.size w).alloc (aC _) (.cells #[.pointer (some ⟨bc,0,none⟩)] 201)
 have HW:=h! aa
 clear aa
 have B2:=h! (Box.new w #[.pointer (some ⟨bc,0,none⟩)] 201)
 have ac:(w.alloc (.cells #[.pointer (some ⟨bc,0,none⟩)] 201)).heap.size=w.heap.size+1:=World.size_alloc _ _
 generalize w.alloc (.cells #[.pointer (some ⟨bc,0,none⟩)] 201)=ag at *
 have aa:=(Below.refl ag.heap.size ag).alloc (aC _) (.cells #[.int .i64 4,.int .i64 val,.slice at_ n ct,.int .i64 N] 61)
 replace B2:=h! (B2.out.later aa)
 replace HW:=h! (HW.out.trans (aa.mono HW.out.size))
 clear aa
 have B3:=h! (Box.new ag #[.int .i64 4,.int .i64 val,.slice at_ n ct,.int .i64 N] 61)
 rw [ac] at B3
 clear ac
 generalize ag.alloc (.cells #[.int .i64 4,.int .i64 val,.slice at_ n ct,.int .i64 N] 61)=wv at *
 obtain ⟨ah,ad,aj⟩:=B2.out
 obtain ⟨ai,af,ae⟩:=B3.out
 have HI:=h! (IMap.new wv)
 have al:=h! (Turn.refl [wv.heap.size] (wv.alloc (.map #[] 0)))
 have HLV:=h! HW.out.size
 have HL3:=h! B3.out.lt
 have HL2:=h! B2.out.lt
 clear ah ad aj ai af ae
 go_upto_region 2 with (with_reducible refine fJ (q:=.i64) (b:=wv.heap.size) rfl _ _ _ _ (.inr rfl) Tryz.underlying93 Tryz.underlying3 rfl HI.out rfl ?_;intro w2 ao _ an;replace HI:=h! ao;replace al:=h! (al.out.trans an);clear ao an)
 clear ba
 replace HI:Hid (IMap w2 wv.heap.size jH):=h! (by rw [<-lD];exact HI.out)
 have am:Below wv.heap.size wv (wv.alloc (.map #[] 0)):=(Below.refl _ _).alloc (aC _) _
 have ak:Below wv.heap.size wv w2:=am.trans (al.out.below (by simp) (fun x hx=>by simp at hx;omega))
 clear al am
 obtain ⟨ah,ad,aj⟩:=B2.out
 obtain ⟨ai,af,ae⟩:=B3.out
 clear ah ad aj ai af ae
 replace B2:=h! (B2.out.later ak)
 replace B3:=h! (B3.out.later ak)
 replace HW:=h! (HW.out.trans (ak.mono HW.out.size))
 clear ak
 obtain ⟨ah,ad,aj⟩:=B2.out
 obtain ⟨ai,af,ae⟩:=B3.out
 have aq:=h! (az.out.later HW.out)
 have aw:=h! (HS.out.below HW.out)
 have ay:Hid (mget jH 4=some (.int .i64 0)):=h! (by kernel_rfl)
 cases hN0:decide (N < 0) <;> cases hN1:decide (0 < N) <;> cases hv:(val != -1) <;> cases hl:((n:Int) != 0)
 all_goals
  have H0:=h! hN0
  have H1:=h! hN1
  have HV:=h! hv
  have HL:=h! hl
  go_wp2_with (first
   | (at_lookup;refine fQ (q:=.i64) (z:=.int .i64 0) (b:=wv.heap.size) (mm:=jH) (y:=4) rfl _ _ _ rfl Tryz.underlying93 Tryz.underlying3 (fY _) rfl HI.out rfl ?_;rw [ay.out])
   | (go_at_call 105;refine (kA aw.out _ _ (qB nb) mN (uG aq.out B2.out _)).mono ?_;rintro e w4 ⟨rfl,ap⟩;have ax:=h! (HW.out.trans (ap.mono HW.out.size));clear ap))
  go_ret
  have e1:=H0.out
  have e2:=H1.out
  have e3:(val == -1) = !(val != -1):=by simp [bne]
  have e5:(n == 0) = !((n:Int) != 0):=by rw [show (n == 0)=((n:Int) == 0) by (rw [bU];simp;try omega)];simp [bne]
  rw [HV.out] at e3
  rw [HL.out] at e5
  first
   | exact ⟨by rw [HR.out,mM,e5];(try rw [e3]);simp at e1 e2 ⊢;try omega,ax.out⟩
   | exact ⟨by rw [HR.out,e5];(try rw [e3]);simp at e1 e2 ⊢;try omega,HW.out⟩
theorem aB1 {w:World} {bc:Nat} {op val N:Int} {n:Nat} {at_:Option Addr} {ct:Nat} (hno:op ≠ 1/\op ≠ 2/\op ≠ 3/\op ≠ 4) :
  Calls Tryz.prog 182 #[.pointer (some ⟨bc,0,none⟩),.agg #[.int .i64 op,.int .i64 val,.slice at_ n ct,.int .i64 N]] w fun e w'=>e = .returned (.bool false)/\Below w.heap.size w w':=by
 have ao:Hid (mget jH op=none):=h! (by rw [oH];unfold jH;simp;omega)
 clear hno
 have ap:=@run_makeMap Tryz.prog
 go_enter Tryz.func182,Tryz.ntmps182
 go_upto_region 1 with (fail)
 have aa:=(Below.refl w.heap.size w).alloc (aC _) (.cells #[.pointer (some ⟨bc,0,none⟩)] 201)
 have HW:=h! aa
 clear aa
 have B2:=h! (Box.new w #[.pointer (some ⟨bc,0,none⟩)] 201)
 have ab:(w.alloc (.cells #[.pointer (some ⟨bc,0,none⟩)] 201)).heap.size=w.heap.size+1:=World.size_alloc _ _
 generalize w.alloc (.cells #[.pointer (some ⟨bc,0,none⟩)] 201)=ae at *
 have aa:=(Below.refl ae.heap.size ae).alloc (aC _) (.cells #[.int .i64 op,.int .i64 val,.slice at_ n ct,.int .i64 N] 61)
 replace B2:=h! (B2.out.later aa)
 replace HW:=h! (HW.out.trans (aa.mono HW.out.size))
 clear aa
 have B3:=h! (Box.new ae #[.int .i64 op,.int .i64 val,.slice at_ n ct,.int .i64 N] 61)
 rw [ab] at B3
 clear ab
 generalize ae.alloc (.cells #[.int .i64 op,.int .i64 val,.slice at_ n ct,.int .i64 N] 61)=wv at *
 obtain ⟨af,ac,ah⟩:=B2.out
 obtain ⟨ag,ad,ak⟩:=B3.out
 have HI:=h! (IMap.new wv)
 have aj:=h! (Turn.refl [wv.heap.size] (wv.alloc (.map #[] 0)))
 have HLV:=h! HW.out.size
 have HL3:=h! B3.out.lt
 have HL2:=h! B2.out.lt
 clear af ac ah ag ad ak
 go_upto_region 2 with (with_reducible refine fJ (q:=.i64) (b:=wv.heap.size) rfl _ _ _ _ (.inr rfl) Tryz.underlying93 Tryz.underlying3 rfl HI.out rfl ?_;intro w2 an _ am;replace HI:=h! an;replace aj:=h! (aj.out.trans am);clear an am)
 clear ap
 replace HI:Hid (IMap w2 wv.heap.size jH):=h! (by rw [<-lD];exact HI.out)
 have al:Below wv.heap.size wv (wv.alloc (.map #[] 0)):=(Below.refl _ _).alloc (aC _) _
 have ai:Below wv.heap.size wv w2:=al.trans (aj.out.below (by simp) (fun x hx=>by simp at hx;omega))
 clear aj al
 obtain ⟨af,ac,ah⟩:=B2.out
 obtain ⟨ag,ad,ak⟩:=B3.out
 clear af ac ah ag ad ak
 replace B2:=h! (B2.out.later ai)
 replace B3:=h! (B3.out.later ai)
 replace HW:=h! (HW.out.trans (ai.mono HW.out.size))
 clear ai
 obtain ⟨af,ac,ah⟩:=B2.out
 obtain ⟨ag,ad,ak⟩:=B3.out
 go_wp2_with (at_lookup;refine fQ (q:=.i64) (z:=.int .i64 0) (b:=wv.heap.size) (mm:=jH) (y:=op) rfl _ _ _ rfl Tryz.underlying93 Tryz.underlying3 (fY _) rfl HI.out rfl ?_;rw [ao.out])
 go_ret
 exact ⟨rfl,HW.out⟩
theorem aFC {w:World} {bc bm:Nat} {vp:Value} {ab:Option Addr} {nb cb:Nat} {ar ce:Int} {t:TermD} {at_:Option Addr} {ct:Nat}
  (hb:Box w bc (chk vp (.slice ab nb cb) ar ce bm)) (hs:Ints w (.slice at_ t.to.length ct) t.to) :
  Calls Tryz.prog 182 #[.pointer (some ⟨bc,0,none⟩),.agg (aCR t at_ ct)] w fun e w'=>e = .returned (.bool (iR nb t))/\Below w.heap.size w w':=by
 obtain ⟨op,val,to,N⟩:=t
 unfold aCR
 by_cases h1:op=1
 ·subst h1;exact aDM hb rfl hs
 ·by_cases h2:op=2
  ·subst h2;exact aDN hb rfl hs
  by_cases h3:op=3
  ·subst h3;exact aDO hb rfl hs
  by_cases h4:op=4
  ·subst h4;exact aDP hb rfl hs
  refine (aB1 ⟨h1,h2,h3,h4⟩).mono fun e w' ⟨he,hw⟩=>⟨?_,hw⟩
  rw [he]
  have:iR nb ⟨op,val,to,N⟩=false:=by
   unfold iR
   simp [h1,h2,h3,h4]
  rw [this]
theorem aDQ {w:World}:Calls Tryz.prog 183 #[.int .i64 17] w (ShpR 17 w):=by
 go_enter Tryz.func183,Tryz.ntmps183
 go_upto_region 1 with (fail)
 have ak:=(Below.refl w.heap.size w).alloc (aC _) (.cells #[.int .i64 0,.slice none 0 0,.int .i64 0] 238)
 have HW:=h! ak
 clear ak
 have B2:=h! (Box.new w #[.int .i64 0,.slice none 0 0,.int .i64 0] 238)
 generalize w.alloc (.cells #[.int .i64 0,.slice none 0 0,.int .i64 0] 238)=wv at *
 obtain ⟨aa,ab,ac⟩:=B2.out
 go_wp2_with fail
 refine (iL 2 1 ⟨by decide,by decide⟩ (by decide)).mono ?_
 rintro e w1 ⟨u,rfl,hu,ah⟩
 obtain ⟨ua,uc,rfl⟩:=hu.ints.form
 simp only [aQ] at hu ⊢
 have HU:=h! hu
 have HL:=h! aa
 clear hu
 clear aa ab ac
 replace B2:=h! (B2.out.later ah)
 replace HW:=h! (HW.out.trans (ah.mono HW.out.size))
 clear ah
 obtain ⟨aa,ab,ac⟩:=B2.out
 go_wp2_with fail
 refine (iL 1 2 ⟨by decide,by decide⟩ (by decide)).mono ?_
 rintro e w2 ⟨u2,rfl,ae,ag⟩
 obtain ⟨ua2,uc2,rfl⟩:=ae.ints.form
 simp only [aQ] at ae ⊢
 have an:=h! ae
 clear ae
 replace HU:=h! (HU.out.later ag)
 clear aa ab ac
 replace B2:=h! (B2.out.later ag)
 replace HW:=h! (HW.out.trans (ag.mono HW.out.size))
 clear ag
 obtain ⟨aa,ab,ac⟩:=B2.out
 have OL:Hid (Own w2 wv.heap.size [w.heap.size] 3 1 (.slice ua 1 uc) 1 [.int .i64 2]):=h! ⟨HU.out.own,fun g hg hm=>by
  have:=(HU.out.fresh g hg).1
  have:=HL.out
  simp at hm;omega⟩
 have HS:=h! HU.out.own
 have aj:wv.heap.size <= w2.heap.size:=by
  rcases HU.out.own.2 with ⟨_,h⟩ | ⟨g,cap,cur,hv,hg,hh,_⟩
  ·simp at h
  have:=(aM.1 hh).1;omega
 have HZ:=h! aj
 clear aj
 go_wp2_with (at_builtin;refine gJ rfl _ _ 22 3 rfl nK rfl rfl OL.out an.out.ints.1 (oQ _) (by unfold maxLen;simp) (by simp) HZ.out (by intro b hb;simp at hb;omega) ?_;intro v3 w3 af ad ai;obtain ⟨a3,c3,rfl⟩:=af.form;simp only [aQ] at af ⊢;have al:=h! af;have B3:=h! (ad _ _ (by simp) B2.out);have am:=h! (HW.out.trans (ai.mono (cD HL.out)));clear af ad ai;obtain ⟨l3,c3',f3⟩:=B3.out;clear aa ab ac)
 have HN:Hid (New 3 wv w3 (.slice a3 3 c3) [2,1,1]):=h! ⟨al.out.row,by simp,fun x hx=>by simp at hx;rcases hx with rfl | rfl | rfl <;> exact ⟨by decide,by decide⟩⟩
 exact bodyPost_ret (v:=.tuple #[.agg #[.int .i64 1,.slice a3 3 c3,.int .i64 0],.bool true]) (by simp [results,Tryz.results183,go_sem, *]) rfl
  ⟨_,rfl,(((HN.out.other _ (.inl HL.out)).other _ (.inl HL.out)).other _ (.inl HL.out)).from (cD HL.out),((am.out.setCell (by simp) _).setCell (by simp) _).setCell (by simp) _⟩
theorem aDR {w:World} {op:Int} (h:op < 1 \/ 25 < op):Calls Tryz.prog 183 #[.int .i64 op] w (ShpR op w):=by
 have HS:=h! (show shp op=none by unfold shp;repeat (rw [if_neg (by omega)]))
 have e1:(op == 1)=false:=by simp;omega
 have e2:(op == 2)=false:=by simp;omega
 have e13:(op == 13)=false:=by simp;omega
 have e14:(op == 14)=false:=by simp;omega
 have e15:(op == 15)=false:=by simp;omega
 have e16:(op == 16)=false:=by simp;omega
 have e17:(op == 17)=false:=by simp;omega
 have e18:(op == 18)=false:=by simp;omega
 have e19:(op == 19)=false:=by simp;omega
 have e21:(op == 21)=false:=by simp;omega
 have e20:(op == 20)=false:=by simp;omega
 have e22:(op == 22)=false:=by simp;omega
 have e23:(op == 23)=false:=by simp;omega
 have e24:(op == 24)=false:=by simp;omega
 have e25:(op == 25)=false:=by simp;omega
 have r1:(decide (3 <= op) && decide (op <= 12))=false:=by simp;omega
 have HR:Hid (decide (3 <= op)=false \/ (decide (3 <= op)=true/\decide (op <= 12)=false)):=h! (by simp;omega)
 clear h r1
 rcases HR.out with r1 | ⟨r1,r2⟩
 all_goals
  go_enter Tryz.func183,Tryz.ntmps183
  go_upto_region 1 with (fail)
  have aa:=(Below.refl w.heap.size w).alloc (aC _) (.cells #[.int .i64 0,.slice none 0 0,.int .i64 0] 238)
  have HW:=h! aa
  clear aa
  have B2:=h! (Box.new w #[.int .i64 0,.slice none 0 0,.int .i64 0] 238)
  generalize w.alloc (.cells #[.int .i64 0,.slice none 0 0,.int .i64 0] 238)=wv at *
  obtain ⟨lB2,cB2,fB2⟩:=B2.out
  go_wp2
  exact bodyPost_ret (v:=.tuple #[.agg #[.int .i64 0,.slice none 0 0,.int .i64 0],.bool false]) (by simp [results,Tryz.results183,go_sem, *]) rfl
   ⟨.slice none 0 0,by unfold shp0;rw [HS.out];rfl,by unfold shp0;rw [HS.out];exact New.nil,((HW.out.setCell (by simp) _).setCell (by simp) _).setCell (by simp) _⟩
theorem yY {w:World} (op:Int):Calls Tryz.prog 183 #[.int .i64 op] w (ShpR op w):=by
 by_cases h:op < 1 \/ 25 < op
 ·exact aDR h
 obtain rfl | rfl | rfl | rfl | rfl | rfl | rfl | rfl | rfl | rfl | rfl | rfl | rfl | rfl | rfl | rfl | rfl | rfl | rfl | rfl | rfl | rfl | rfl | rfl | rfl:op=1 \/ op=2 \/ op=3 \/ op=4 \/ op=5 \/ op=6 \/ op=7 \/ op=8 \/ op=9 \/ op=10 \/ op=11 \/ op=12 \/ op=13 \/ op=14 \/ op=15 \/ op=16 \/ op=17 \/ op=18 \/ op=19 \/ op=20 \/ op=21 \/ op=22 \/ op=23 \/ op=24 \/ op=25:=by omega
 ·exact aFY
 ·exact aFZ
 ·exact aF0
 ·exact aF1
 ·exact aF2
 ·exact aF3
 ·exact aF4
 ·exact aF5
 ·exact aF6
 ·exact aEV
 ·exact aEW
 ·exact aEX
 ·exact aEL
 ·exact aEM
 ·exact aEN
 ·exact aEO
 ·exact aDQ
 ·exact aEJ
 ·exact aEP
 ·exact aER
 ·exact aEQ
 ·exact aES
 ·exact aET
 ·exact aEK
 exact aEU
theorem eT {B:Nat} {a w:World} (h:Below B a w) (n:Nat):Below B a (w.drewN n):=⟨h.os,h.tape,h.output,h.size,h.block⟩
theorem uH {W:World} {v:Value} {bs:List BlockD} (h:eU gI 6 W v bs):∀ b ∈ bs,1 <= gU b/\gU b <= 35184372088833:=by
 intro b hb
 obtain ⟨cs,_,h2⟩:=h
 obtain ⟨j,hj,rfl⟩:=dU hb
 obtain ⟨v,u,t,_,h3,h4,_⟩:=h2 j _ (aB hj)
 have:=h3.le
 have:=h4.le
 unfold gU;omega
theorem yZ (l:List Int) (a b:Int) (h:∀ x ∈ l,a <= x/\x <= b):a * l.length <= l.sum/\l.sum <= b * l.length:=by
 induction l with
 | nil=>simp
 | cons x l ih =>
  have h1:=h x (by simp)
  have h2:=ih fun y hy=>h y (by simp [hy])
  simp only [List.sum_cons,bE,Int.natCast_add,Int.natCast_one,Int.mul_add,Int.mul_one]
  omega
theorem pJ {W:World} {v:Value} {bs:List BlockD} (h:eU gI 6 W v bs) (j:Nat) (hj:j <= 512):0 <= ((bs.take j).map gU).sum/\((bs.take j).map gU).sum <= 18014398509482496:=by
 have h1:=yZ ((bs.take j).map gU) 1 35184372088833 (fun x hx=>by
  obtain ⟨b,hb,rfl⟩:=bB.1 hx
  exact uH h b (cJ hb))
 rw [bI,aV] at h1
 omega
theorem uI (bs:List BlockD) (j:Nat) (x:BlockD) (h:bs[j]? = some x):((bs.take (j+1)).map gU).sum=((bs.take j).map gU).sum+gU x:=by
 rw [cW,h,Option.toList_some,bD,List.sum_append];simp
theorem zA {w:World} {bc:Nat} {vb:Value} {bs:List BlockD} (h3:w.cell? ⟨bc,3,none⟩=some vb) (hB:eU gI 6 w vb bs) (hn:bs.length <= 512) :
  Calls Tryz.prog 179 #[.pointer (some ⟨bc,0,none⟩)] w fun e w'=>e = .returned (.int .i64 ((bs.map gU).sum))/\Below w.heap.size w w':=by
 have ak:=h! hB
 obtain ⟨a,cap,b,off,rfl,hc,hm,hl,ha,hx⟩:=eW hB
 have HA:=h! ha
 have HX:=h! hx
 clear ha hx hB hl
 obtain ⟨n,ab⟩ : ∃ n,n=bs.length:=⟨_,rfl⟩
 rw [<-ab] at h3 hc hn HA
 have HN:=h! ab
 clear ab
 go_enter Tryz.func179,Tryz.ntmps179
 go_wp2
 go_loopw [3,12] (fun s i wr => ∃ j:Nat,j <= n/\i = .int .i64 j/\s = .int .i64 ((bs.take j).map gU).sum/\Below w.heap.size w wr) (fun _ i _=>n - (intOf i).toNat)
 case atStart=>exact ⟨0,aH _,rfl,rfl,Below.refl _ _⟩
 case round =>
  obtain ⟨j,hj,rfl,rfl,hW⟩:=hrel
  have HW:=h! hW
  clear hW
  by_cases hlt:j < n
  ·have ah:0 < n:=by omega
   obtain ⟨rfl,ag⟩:=HA.out ah
   have aa:bs[j]? = some bs[j]:=aB (by have:=HN.out;omega)
   obtain ⟨x,ac⟩ : ∃ x,x=bs[j]'(by have:=HN.out;omega):=⟨_,rfl⟩
   rw [<-ac] at aa
   clear ac
   obtain ⟨ap,ai,at_,cp,ci,ct,hC⟩:=HX.out j x aa
   obtain ⟨c0,c1,c2,c3,c4,c5,h6,h7,h8,h9,af,aj⟩:=hC.below HW.out ag
   have hs0:=pJ ak.out j (by omega)
   have hl1:=h6.le
   have hl2:=h7.le
   have ae:=h! (uI bs j x aa)
   have ad:gU x=x.phis.length+x.code.length+1:=rfl
   rw [ad] at ae
   clear h6 h7 h8 h9 af aj hC aa ad
   generalize ((bs.take j).map gU).sum=s at *
   go_wp2
   go_roundw
   case rel=>exact ⟨j+1,hlt,by go_num,by rw [ae.out],HW.out.alloc HW.out.size _⟩
   simp [intOf];omega
  obtain rfl:j=n:=by omega
  go_wp2
  go_ret
  rw [aJ (by have:=HN.out;omega)]
  exact ⟨rfl,HW.out⟩
end Go.Proofs.YtagabiidbbhhmaaGreat
