/- What the claim needs, part 8. -/
import Derived.Test.YtefpmjnimnmniaaH7
namespace Go.Proofs.Ytefpmjnimnmniaa
set_option linter.unusedSimpArgs false
set_option linter.unusedVariables false
open Go.RowKit
def toBad (nb : Nat) (b : Int) : Bool := !numB nb b || b == 0
theorem toBad_all (nb : Nat) (l : List Int) : (!(l.any (toBad nb))) = l.all fun b => decide (1 ≤ b) && decide (b < (nb : Int)) := by
  rw [List.not_any_eq_all_not]
  congr 1
  funext b
  unfold toBad numB
  rw [Bool.eq_iff_iff]
  simp only [Bool.not_or, Bool.not_not, Bool.and_eq_true, decide_eq_true_eq, Bool.not_eq_true', beq_eq_false_iff_ne, ne_eq]
  omega
set_option maxHeartbeats 1600000 in
theorem endAsk {w : World} {bc bb : Nat} {vp : Value} {ab : Option Addr} {nb cb : Nat} {ar ce : Int} {bm : Nat} (hb : Box w bc (chk vp (.slice ab nb cb) ar ce bm)) (hc : Box w bb #[.pointer (some ⟨bc, 0, none⟩)]) (xs : List Int) :
    Asks 134 #[.pointer (some ⟨bb, 0, none⟩)] w xs (toBad nb) := by
  intro W x hW _
  show Calls Try.prog 134 #[.int .i64 x, .pointer (some ⟨bb, 0, none⟩)] W _
  have HB := Lib.hid (hb.later hW)
  have h0 := (hc.later hW).at 0 rfl
  clear hb hc hW
  cases h1 : numB nb x <;> cases h2 : (x == 0)
  all_goals
    have H1 := Lib.hid h1
    have HR : Hid (toBad nb x = _) := Lib.hid (by unfold toBad; rw [h1, h2])
    clear h1
    go_enter Try.func134, Try.ntmps134
    go_wp2_with (go_at_call 132; refine (chkBlk HB.out x _ H1.out).mono ?_; rintro e w1 ⟨rfl, rfl⟩)
    go_ret
    exact ⟨by rw [HR.out]; rfl, Below.refl _ _⟩
theorem endEnters : Enters Try.prog 134 := enters_of Try.func134 (by kernel_rfl) rfl
def endMap : List (Int × Value) := [(1, .int .i64 1), (2, .int .i64 2), (3, .int .i64 0), (4, .int .i64 0)]
theorem endMap_is : mput (mput (mput (mput [] 1 (.int .i64 1)) 2 (.int .i64 2)) 3 (.int .i64 0)) 4 (.int .i64 0) = endMap := by kernel_rfl
set_option maxHeartbeats 3200000 in
theorem chkEnd1 {w : World} {bc bm : Nat} {vp : Value} {ab : Option Addr} {nb cb : Nat} {ar ce : Int} {val N : Int} {to : List Int} {n : Nat} {at_ : Option Addr} {ct : Nat}
    (hb : Box w bc (chk vp (.slice ab nb cb) ar ce bm)) (hn : n = to.length) (hs : Ints w (.slice at_ n ct) to) :
    Calls Try.prog 111 #[.pointer (some ⟨bc, 0, none⟩), .agg #[.int .i64 1, .int .i64 val, .slice at_ n ct, .int .i64 N]] w fun e w' => e = .returned (.bool (endOk nb ⟨1, val, to, N⟩)) ∧ Below w.heap.size w w' := by
  have HBC := Lib.hid hb
  have HS := Lib.hid hs
  have HN := Lib.hid hn
  obtain ⟨r, hr⟩ : ∃ r, r = endOk nb ⟨1, val, to, N⟩ := ⟨_, rfl⟩
  have HR : Hid (r = ((to.all fun b => decide (1 ≤ b) && decide (b < (nb : Int))) && (n == 1 && val == -1 && N == 0))) := Lib.hid (by rw [hr, hn]; unfold endOk; simp)
  rw [← hr]
  clear hb hs hn hr
  have hmm := @run_makeMap Try.prog
  go_enter Try.func111, Try.ntmps111
  go_upto_region 1 with (fail)
  have B2 : Hid (Box ((w.alloc (.cells #[.pointer (some ⟨bc, 0, none⟩)] 128)).alloc (.cells #[.int .i64 1, .int .i64 val, .slice at_ n ct, .int .i64 N] 53)) (w.heap.size) #[.pointer (some ⟨bc, 0, none⟩)]) := Lib.hid (by simpa using ((Box.new w #[.pointer (some ⟨bc, 0, none⟩)] 128).alloc _))
  have B3 : Hid (Box ((w.alloc (.cells #[.pointer (some ⟨bc, 0, none⟩)] 128)).alloc (.cells #[.int .i64 1, .int .i64 val, .slice at_ n ct, .int .i64 N] 53)) (w.heap.size + 1) #[.int .i64 1, .int .i64 val, .slice at_ n ct, .int .i64 N]) := Lib.hid (by simpa using (Box.new (w.alloc (.cells #[.pointer (some ⟨bc, 0, none⟩)] 128)) #[.int .i64 1, .int .i64 val, .slice at_ n ct, .int .i64 N] 53))
  have HW : Hid (Below w.heap.size w ((w.alloc (.cells #[.pointer (some ⟨bc, 0, none⟩)] 128)).alloc (.cells #[.int .i64 1, .int .i64 val, .slice at_ n ct, .int .i64 N] 53))) := Lib.hid (((Below.refl _ _).alloc (Nat.le_refl _) _).alloc (by simp) _)
  generalize ((w.alloc (.cells #[.pointer (some ⟨bc, 0, none⟩)] 128)).alloc (.cells #[.int .i64 1, .int .i64 val, .slice at_ n ct, .int .i64 N] 53)) = wv at *
  obtain ⟨lB2, cB2, fB2⟩ := B2.out
  obtain ⟨lB3, cB3, fB3⟩ := B3.out
  have HI := Lib.hid (IMap.new wv)
  have HTU := Lib.hid (Turn.refl [wv.heap.size] (wv.alloc (.map #[] 0)))
  have HLV := Lib.hid HW.out.size
  have HL3 := Lib.hid B3.out.lt
  have HL2 := Lib.hid B2.out.lt
  clear lB2 cB2 fB2 lB3 cB3 fB3
  go_upto_region 2 with (with_reducible refine wpList_put (q := .i64) (b := wv.heap.size) rfl _ _ _ _ (.inr rfl) Try.underlying124 Try.underlying3 rfl HI.out rfl ?_; intro w2 hm2 _ ht2; replace HI := Lib.hid hm2; replace HTU := Lib.hid (HTU.out.trans ht2); clear hm2 ht2)
  clear hmm
  replace HI : Hid (IMap w2 wv.heap.size endMap) := Lib.hid (by rw [← endMap_is]; exact HI.out)
  have hA0 : Below wv.heap.size wv (wv.alloc (.map #[] 0)) := (Below.refl _ _).alloc (Nat.le_refl _) _
  have hb2 : Below wv.heap.size wv w2 := hA0.trans (HTU.out.below (by simp) (fun x hx => by simp at hx; omega))
  clear HTU hA0
  obtain ⟨lB2, cB2, fB2⟩ := B2.out
  obtain ⟨lB3, cB3, fB3⟩ := B3.out
  clear lB2 cB2 fB2 lB3 cB3 fB3
  replace B2 := Lib.hid (B2.out.later hb2)
  replace B3 := Lib.hid (B3.out.later hb2)
  replace HW := Lib.hid (HW.out.trans (hb2.mono HW.out.size))
  clear hb2
  obtain ⟨lB2, cB2, fB2⟩ := B2.out
  obtain ⟨lB3, cB3, fB3⟩ := B3.out

  have HBR := Lib.hid (HBC.out.later HW.out)
  have HSR := Lib.hid (HS.out.below HW.out)
  have HMG : Hid (mget endMap 1 = some (.int .i64 1)) := Lib.hid (by kernel_rfl)
  cases hN0 : decide (N < 0) <;> cases hN1 : decide (0 < N) <;> cases hv : (val != -1) <;> cases hl : ((n : Int) != 1)
  all_goals
    have H0 := Lib.hid hN0
    have H1 := Lib.hid hN1
    have HV := Lib.hid hv
    have HL := Lib.hid hl
    go_wp2_with (first
      | (at_lookup; refine wpList_look (q := .i64) (z := .int .i64 0) (b := wv.heap.size) (mm := endMap) (y := 1) rfl _ _ _ rfl Try.underlying124 Try.underlying3 (zeroInt _) rfl HI.out rfl ?_; rw [HMG.out])
      | (go_at_call 128; refine (containsFunc HSR.out _ _ (toBad nb) endEnters (endAsk HBR.out B2.out _)).mono ?_; rintro e w4 ⟨rfl, hb4⟩; have HB4 := Lib.hid (HW.out.trans (hb4.mono HW.out.size)); clear hb4))
    go_ret
    have e1 := H0.out
    have e2 := H1.out
    have e3 : (val == -1) = !(val != -1) := by simp [bne]
    have e5 : (n == 1) = !((n : Int) != 1) := by rw [show (n == 1) = ((n : Int) == 1) by (rw [Bool.eq_iff_iff]; simp; try omega)]; simp [bne]
    rw [HV.out] at e3
    rw [HL.out] at e5
    first
      | exact ⟨by rw [HR.out, toBad_all, e5]; (try rw [e3]); simp at e1 e2 ⊢; try omega, HB4.out⟩
      | exact ⟨by rw [HR.out, e5]; (try rw [e3]); simp at e1 e2 ⊢; try omega, HW.out⟩
set_option maxHeartbeats 3200000 in
theorem chkEnd2 {w : World} {bc bm : Nat} {vp : Value} {ab : Option Addr} {nb cb : Nat} {ar ce : Int} {val N : Int} {to : List Int} {n : Nat} {at_ : Option Addr} {ct : Nat}
    (hb : Box w bc (chk vp (.slice ab nb cb) ar ce bm)) (hn : n = to.length) (hs : Ints w (.slice at_ n ct) to) :
    Calls Try.prog 111 #[.pointer (some ⟨bc, 0, none⟩), .agg #[.int .i64 2, .int .i64 val, .slice at_ n ct, .int .i64 N]] w fun e w' => e = .returned (.bool (endOk nb ⟨2, val, to, N⟩)) ∧ Below w.heap.size w w' := by
  have HBC := Lib.hid hb
  have HS := Lib.hid hs
  have HN := Lib.hid hn
  obtain ⟨r, hr⟩ : ∃ r, r = endOk nb ⟨2, val, to, N⟩ := ⟨_, rfl⟩
  have HR : Hid (r = ((to.all fun b => decide (1 ≤ b) && decide (b < (nb : Int))) && (n == 2 && N == 0))) := Lib.hid (by rw [hr, hn]; unfold endOk; simp)
  rw [← hr]
  clear hb hs hn hr
  have hmm := @run_makeMap Try.prog
  go_enter Try.func111, Try.ntmps111
  go_upto_region 1 with (fail)
  have B2 : Hid (Box ((w.alloc (.cells #[.pointer (some ⟨bc, 0, none⟩)] 128)).alloc (.cells #[.int .i64 2, .int .i64 val, .slice at_ n ct, .int .i64 N] 53)) (w.heap.size) #[.pointer (some ⟨bc, 0, none⟩)]) := Lib.hid (by simpa using ((Box.new w #[.pointer (some ⟨bc, 0, none⟩)] 128).alloc _))
  have B3 : Hid (Box ((w.alloc (.cells #[.pointer (some ⟨bc, 0, none⟩)] 128)).alloc (.cells #[.int .i64 2, .int .i64 val, .slice at_ n ct, .int .i64 N] 53)) (w.heap.size + 1) #[.int .i64 2, .int .i64 val, .slice at_ n ct, .int .i64 N]) := Lib.hid (by simpa using (Box.new (w.alloc (.cells #[.pointer (some ⟨bc, 0, none⟩)] 128)) #[.int .i64 2, .int .i64 val, .slice at_ n ct, .int .i64 N] 53))
  have HW : Hid (Below w.heap.size w ((w.alloc (.cells #[.pointer (some ⟨bc, 0, none⟩)] 128)).alloc (.cells #[.int .i64 2, .int .i64 val, .slice at_ n ct, .int .i64 N] 53))) := Lib.hid (((Below.refl _ _).alloc (Nat.le_refl _) _).alloc (by simp) _)
  generalize ((w.alloc (.cells #[.pointer (some ⟨bc, 0, none⟩)] 128)).alloc (.cells #[.int .i64 2, .int .i64 val, .slice at_ n ct, .int .i64 N] 53)) = wv at *
  obtain ⟨lB2, cB2, fB2⟩ := B2.out
  obtain ⟨lB3, cB3, fB3⟩ := B3.out
  have HI := Lib.hid (IMap.new wv)
  have HTU := Lib.hid (Turn.refl [wv.heap.size] (wv.alloc (.map #[] 0)))
  have HLV := Lib.hid HW.out.size
  have HL3 := Lib.hid B3.out.lt
  have HL2 := Lib.hid B2.out.lt
  clear lB2 cB2 fB2 lB3 cB3 fB3
  go_upto_region 2 with (with_reducible refine wpList_put (q := .i64) (b := wv.heap.size) rfl _ _ _ _ (.inr rfl) Try.underlying124 Try.underlying3 rfl HI.out rfl ?_; intro w2 hm2 _ ht2; replace HI := Lib.hid hm2; replace HTU := Lib.hid (HTU.out.trans ht2); clear hm2 ht2)
  clear hmm
  replace HI : Hid (IMap w2 wv.heap.size endMap) := Lib.hid (by rw [← endMap_is]; exact HI.out)
  have hA0 : Below wv.heap.size wv (wv.alloc (.map #[] 0)) := (Below.refl _ _).alloc (Nat.le_refl _) _
  have hb2 : Below wv.heap.size wv w2 := hA0.trans (HTU.out.below (by simp) (fun x hx => by simp at hx; omega))
  clear HTU hA0
  obtain ⟨lB2, cB2, fB2⟩ := B2.out
  obtain ⟨lB3, cB3, fB3⟩ := B3.out
  clear lB2 cB2 fB2 lB3 cB3 fB3
  replace B2 := Lib.hid (B2.out.later hb2)
  replace B3 := Lib.hid (B3.out.later hb2)
  replace HW := Lib.hid (HW.out.trans (hb2.mono HW.out.size))
  clear hb2
  obtain ⟨lB2, cB2, fB2⟩ := B2.out
  obtain ⟨lB3, cB3, fB3⟩ := B3.out

  have HBR := Lib.hid (HBC.out.later HW.out)
  have HSR := Lib.hid (HS.out.below HW.out)
  have HMG : Hid (mget endMap 2 = some (.int .i64 2)) := Lib.hid (by kernel_rfl)
  cases hN0 : decide (N < 0) <;> cases hN1 : decide (0 < N) <;> cases hv : (val != -1) <;> cases hl : ((n : Int) != 2)
  all_goals
    have H0 := Lib.hid hN0
    have H1 := Lib.hid hN1
    have HV := Lib.hid hv
    have HL := Lib.hid hl
    go_wp2_with (first
      | (at_lookup; refine wpList_look (q := .i64) (z := .int .i64 0) (b := wv.heap.size) (mm := endMap) (y := 2) rfl _ _ _ rfl Try.underlying124 Try.underlying3 (zeroInt _) rfl HI.out rfl ?_; rw [HMG.out])
      | (go_at_call 128; refine (containsFunc HSR.out _ _ (toBad nb) endEnters (endAsk HBR.out B2.out _)).mono ?_; rintro e w4 ⟨rfl, hb4⟩; have HB4 := Lib.hid (HW.out.trans (hb4.mono HW.out.size)); clear hb4))
    go_ret
    have e1 := H0.out
    have e2 := H1.out
    have e3 : (val == -1) = !(val != -1) := by simp [bne]
    have e5 : (n == 2) = !((n : Int) != 2) := by rw [show (n == 2) = ((n : Int) == 2) by (rw [Bool.eq_iff_iff]; simp; try omega)]; simp [bne]
    rw [HV.out] at e3
    rw [HL.out] at e5
    first
      | exact ⟨by rw [HR.out, toBad_all, e5]; (try rw [e3]); simp at e1 e2 ⊢; try omega, HB4.out⟩
      | exact ⟨by rw [HR.out, e5]; (try rw [e3]); simp at e1 e2 ⊢; try omega, HW.out⟩
set_option maxHeartbeats 3200000 in
theorem chkEnd3 {w : World} {bc bm : Nat} {vp : Value} {ab : Option Addr} {nb cb : Nat} {ar ce : Int} {val N : Int} {to : List Int} {n : Nat} {at_ : Option Addr} {ct : Nat}
    (hb : Box w bc (chk vp (.slice ab nb cb) ar ce bm)) (hn : n = to.length) (hs : Ints w (.slice at_ n ct) to) :
    Calls Try.prog 111 #[.pointer (some ⟨bc, 0, none⟩), .agg #[.int .i64 3, .int .i64 val, .slice at_ n ct, .int .i64 N]] w fun e w' => e = .returned (.bool (endOk nb ⟨3, val, to, N⟩)) ∧ Below w.heap.size w w' := by
  have HBC := Lib.hid hb
  have HS := Lib.hid hs
  have HN := Lib.hid hn
  obtain ⟨r, hr⟩ : ∃ r, r = endOk nb ⟨3, val, to, N⟩ := ⟨_, rfl⟩
  have HR : Hid (r = ((to.all fun b => decide (1 ≤ b) && decide (b < (nb : Int))) && (n == 0 && N == 0))) := Lib.hid (by rw [hr, hn]; unfold endOk; simp)
  rw [← hr]
  clear hb hs hn hr
  have hmm := @run_makeMap Try.prog
  go_enter Try.func111, Try.ntmps111
  go_upto_region 1 with (fail)
  have B2 : Hid (Box ((w.alloc (.cells #[.pointer (some ⟨bc, 0, none⟩)] 128)).alloc (.cells #[.int .i64 3, .int .i64 val, .slice at_ n ct, .int .i64 N] 53)) (w.heap.size) #[.pointer (some ⟨bc, 0, none⟩)]) := Lib.hid (by simpa using ((Box.new w #[.pointer (some ⟨bc, 0, none⟩)] 128).alloc _))
  have B3 : Hid (Box ((w.alloc (.cells #[.pointer (some ⟨bc, 0, none⟩)] 128)).alloc (.cells #[.int .i64 3, .int .i64 val, .slice at_ n ct, .int .i64 N] 53)) (w.heap.size + 1) #[.int .i64 3, .int .i64 val, .slice at_ n ct, .int .i64 N]) := Lib.hid (by simpa using (Box.new (w.alloc (.cells #[.pointer (some ⟨bc, 0, none⟩)] 128)) #[.int .i64 3, .int .i64 val, .slice at_ n ct, .int .i64 N] 53))
  have HW : Hid (Below w.heap.size w ((w.alloc (.cells #[.pointer (some ⟨bc, 0, none⟩)] 128)).alloc (.cells #[.int .i64 3, .int .i64 val, .slice at_ n ct, .int .i64 N] 53))) := Lib.hid (((Below.refl _ _).alloc (Nat.le_refl _) _).alloc (by simp) _)
  generalize ((w.alloc (.cells #[.pointer (some ⟨bc, 0, none⟩)] 128)).alloc (.cells #[.int .i64 3, .int .i64 val, .slice at_ n ct, .int .i64 N] 53)) = wv at *
  obtain ⟨lB2, cB2, fB2⟩ := B2.out
  obtain ⟨lB3, cB3, fB3⟩ := B3.out
  have HI := Lib.hid (IMap.new wv)
  have HTU := Lib.hid (Turn.refl [wv.heap.size] (wv.alloc (.map #[] 0)))
  have HLV := Lib.hid HW.out.size
  have HL3 := Lib.hid B3.out.lt
  have HL2 := Lib.hid B2.out.lt
  clear lB2 cB2 fB2 lB3 cB3 fB3
  go_upto_region 2 with (with_reducible refine wpList_put (q := .i64) (b := wv.heap.size) rfl _ _ _ _ (.inr rfl) Try.underlying124 Try.underlying3 rfl HI.out rfl ?_; intro w2 hm2 _ ht2; replace HI := Lib.hid hm2; replace HTU := Lib.hid (HTU.out.trans ht2); clear hm2 ht2)
  clear hmm
  replace HI : Hid (IMap w2 wv.heap.size endMap) := Lib.hid (by rw [← endMap_is]; exact HI.out)
  have hA0 : Below wv.heap.size wv (wv.alloc (.map #[] 0)) := (Below.refl _ _).alloc (Nat.le_refl _) _
  have hb2 : Below wv.heap.size wv w2 := hA0.trans (HTU.out.below (by simp) (fun x hx => by simp at hx; omega))
  clear HTU hA0
  obtain ⟨lB2, cB2, fB2⟩ := B2.out
  obtain ⟨lB3, cB3, fB3⟩ := B3.out
  clear lB2 cB2 fB2 lB3 cB3 fB3
  replace B2 := Lib.hid (B2.out.later hb2)
  replace B3 := Lib.hid (B3.out.later hb2)
  replace HW := Lib.hid (HW.out.trans (hb2.mono HW.out.size))
  clear hb2
  obtain ⟨lB2, cB2, fB2⟩ := B2.out
  obtain ⟨lB3, cB3, fB3⟩ := B3.out

  have HBR := Lib.hid (HBC.out.later HW.out)
  have HSR := Lib.hid (HS.out.below HW.out)
  have HMG : Hid (mget endMap 3 = some (.int .i64 0)) := Lib.hid (by kernel_rfl)
  cases hN0 : decide (N < 0) <;> cases hN1 : decide (0 < N) <;> cases hv : (val != -1) <;> cases hl : ((n : Int) != 0)
  all_goals
    have H0 := Lib.hid hN0
    have H1 := Lib.hid hN1
    have HV := Lib.hid hv
    have HL := Lib.hid hl
    go_wp2_with (first
      | (at_lookup; refine wpList_look (q := .i64) (z := .int .i64 0) (b := wv.heap.size) (mm := endMap) (y := 3) rfl _ _ _ rfl Try.underlying124 Try.underlying3 (zeroInt _) rfl HI.out rfl ?_; rw [HMG.out])
      | (go_at_call 128; refine (containsFunc HSR.out _ _ (toBad nb) endEnters (endAsk HBR.out B2.out _)).mono ?_; rintro e w4 ⟨rfl, hb4⟩; have HB4 := Lib.hid (HW.out.trans (hb4.mono HW.out.size)); clear hb4))
    go_ret
    have e1 := H0.out
    have e2 := H1.out
    have e3 : (val == -1) = !(val != -1) := by simp [bne]
    have e5 : (n == 0) = !((n : Int) != 0) := by rw [show (n == 0) = ((n : Int) == 0) by (rw [Bool.eq_iff_iff]; simp; try omega)]; simp [bne]
    rw [HV.out] at e3
    rw [HL.out] at e5
    first
      | exact ⟨by rw [HR.out, toBad_all, e5]; (try rw [e3]); simp at e1 e2 ⊢; try omega, HB4.out⟩
      | exact ⟨by rw [HR.out, e5]; (try rw [e3]); simp at e1 e2 ⊢; try omega, HW.out⟩
set_option maxHeartbeats 3200000 in
theorem chkEnd4 {w : World} {bc bm : Nat} {vp : Value} {ab : Option Addr} {nb cb : Nat} {ar ce : Int} {val N : Int} {to : List Int} {n : Nat} {at_ : Option Addr} {ct : Nat}
    (hb : Box w bc (chk vp (.slice ab nb cb) ar ce bm)) (hn : n = to.length) (hs : Ints w (.slice at_ n ct) to) :
    Calls Try.prog 111 #[.pointer (some ⟨bc, 0, none⟩), .agg #[.int .i64 4, .int .i64 val, .slice at_ n ct, .int .i64 N]] w fun e w' => e = .returned (.bool (endOk nb ⟨4, val, to, N⟩)) ∧ Below w.heap.size w w' := by
  have HBC := Lib.hid hb
  have HS := Lib.hid hs
  have HN := Lib.hid hn
  obtain ⟨r, hr⟩ : ∃ r, r = endOk nb ⟨4, val, to, N⟩ := ⟨_, rfl⟩
  have HR : Hid (r = ((to.all fun b => decide (1 ≤ b) && decide (b < (nb : Int))) && (n == 0 && val == -1 && decide (0 ≤ N)))) := Lib.hid (by rw [hr, hn]; unfold endOk; simp)
  rw [← hr]
  clear hb hs hn hr
  have hmm := @run_makeMap Try.prog
  go_enter Try.func111, Try.ntmps111
  go_upto_region 1 with (fail)
  have B2 : Hid (Box ((w.alloc (.cells #[.pointer (some ⟨bc, 0, none⟩)] 128)).alloc (.cells #[.int .i64 4, .int .i64 val, .slice at_ n ct, .int .i64 N] 53)) (w.heap.size) #[.pointer (some ⟨bc, 0, none⟩)]) := Lib.hid (by simpa using ((Box.new w #[.pointer (some ⟨bc, 0, none⟩)] 128).alloc _))
  have B3 : Hid (Box ((w.alloc (.cells #[.pointer (some ⟨bc, 0, none⟩)] 128)).alloc (.cells #[.int .i64 4, .int .i64 val, .slice at_ n ct, .int .i64 N] 53)) (w.heap.size + 1) #[.int .i64 4, .int .i64 val, .slice at_ n ct, .int .i64 N]) := Lib.hid (by simpa using (Box.new (w.alloc (.cells #[.pointer (some ⟨bc, 0, none⟩)] 128)) #[.int .i64 4, .int .i64 val, .slice at_ n ct, .int .i64 N] 53))
  have HW : Hid (Below w.heap.size w ((w.alloc (.cells #[.pointer (some ⟨bc, 0, none⟩)] 128)).alloc (.cells #[.int .i64 4, .int .i64 val, .slice at_ n ct, .int .i64 N] 53))) := Lib.hid (((Below.refl _ _).alloc (Nat.le_refl _) _).alloc (by simp) _)
  generalize ((w.alloc (.cells #[.pointer (some ⟨bc, 0, none⟩)] 128)).alloc (.cells #[.int .i64 4, .int .i64 val, .slice at_ n ct, .int .i64 N] 53)) = wv at *
  obtain ⟨lB2, cB2, fB2⟩ := B2.out
  obtain ⟨lB3, cB3, fB3⟩ := B3.out
  have HI := Lib.hid (IMap.new wv)
  have HTU := Lib.hid (Turn.refl [wv.heap.size] (wv.alloc (.map #[] 0)))
  have HLV := Lib.hid HW.out.size
  have HL3 := Lib.hid B3.out.lt
  have HL2 := Lib.hid B2.out.lt
  clear lB2 cB2 fB2 lB3 cB3 fB3
  go_upto_region 2 with (with_reducible refine wpList_put (q := .i64) (b := wv.heap.size) rfl _ _ _ _ (.inr rfl) Try.underlying124 Try.underlying3 rfl HI.out rfl ?_; intro w2 hm2 _ ht2; replace HI := Lib.hid hm2; replace HTU := Lib.hid (HTU.out.trans ht2); clear hm2 ht2)
  clear hmm
  replace HI : Hid (IMap w2 wv.heap.size endMap) := Lib.hid (by rw [← endMap_is]; exact HI.out)
  have hA0 : Below wv.heap.size wv (wv.alloc (.map #[] 0)) := (Below.refl _ _).alloc (Nat.le_refl _) _
  have hb2 : Below wv.heap.size wv w2 := hA0.trans (HTU.out.below (by simp) (fun x hx => by simp at hx; omega))
  clear HTU hA0
  obtain ⟨lB2, cB2, fB2⟩ := B2.out
  obtain ⟨lB3, cB3, fB3⟩ := B3.out
  clear lB2 cB2 fB2 lB3 cB3 fB3
  replace B2 := Lib.hid (B2.out.later hb2)
  replace B3 := Lib.hid (B3.out.later hb2)
  replace HW := Lib.hid (HW.out.trans (hb2.mono HW.out.size))
  clear hb2
  obtain ⟨lB2, cB2, fB2⟩ := B2.out
  obtain ⟨lB3, cB3, fB3⟩ := B3.out

  have HBR := Lib.hid (HBC.out.later HW.out)
  have HSR := Lib.hid (HS.out.below HW.out)
  have HMG : Hid (mget endMap 4 = some (.int .i64 0)) := Lib.hid (by kernel_rfl)
  cases hN0 : decide (N < 0) <;> cases hN1 : decide (0 < N) <;> cases hv : (val != -1) <;> cases hl : ((n : Int) != 0)
  all_goals
    have H0 := Lib.hid hN0
    have H1 := Lib.hid hN1
    have HV := Lib.hid hv
    have HL := Lib.hid hl
    go_wp2_with (first
      | (at_lookup; refine wpList_look (q := .i64) (z := .int .i64 0) (b := wv.heap.size) (mm := endMap) (y := 4) rfl _ _ _ rfl Try.underlying124 Try.underlying3 (zeroInt _) rfl HI.out rfl ?_; rw [HMG.out])
      | (go_at_call 128; refine (containsFunc HSR.out _ _ (toBad nb) endEnters (endAsk HBR.out B2.out _)).mono ?_; rintro e w4 ⟨rfl, hb4⟩; have HB4 := Lib.hid (HW.out.trans (hb4.mono HW.out.size)); clear hb4))
    go_ret
    have e1 := H0.out
    have e2 := H1.out
    have e3 : (val == -1) = !(val != -1) := by simp [bne]
    have e5 : (n == 0) = !((n : Int) != 0) := by rw [show (n == 0) = ((n : Int) == 0) by (rw [Bool.eq_iff_iff]; simp; try omega)]; simp [bne]
    rw [HV.out] at e3
    rw [HL.out] at e5
    first
      | exact ⟨by rw [HR.out, toBad_all, e5]; (try rw [e3]); simp at e1 e2 ⊢; try omega, HB4.out⟩
      | exact ⟨by rw [HR.out, e5]; (try rw [e3]); simp at e1 e2 ⊢; try omega, HW.out⟩
set_option maxHeartbeats 3200000 in
theorem chkEndNo {w : World} {bc : Nat} {op val N : Int} {n : Nat} {at_ : Option Addr} {ct : Nat} (hno : op ≠ 1 ∧ op ≠ 2 ∧ op ≠ 3 ∧ op ≠ 4) :
    Calls Try.prog 111 #[.pointer (some ⟨bc, 0, none⟩), .agg #[.int .i64 op, .int .i64 val, .slice at_ n ct, .int .i64 N]] w fun e w' => e = .returned (.bool false) ∧ Below w.heap.size w w' := by
  have HMG : Hid (mget endMap op = none) := Lib.hid (by rw [mget_none]; unfold endMap; simp; omega)
  clear hno
  have hmm := @run_makeMap Try.prog
  go_enter Try.func111, Try.ntmps111
  go_upto_region 1 with (fail)
  have B2 : Hid (Box ((w.alloc (.cells #[.pointer (some ⟨bc, 0, none⟩)] 128)).alloc (.cells #[.int .i64 op, .int .i64 val, .slice at_ n ct, .int .i64 N] 53)) (w.heap.size) #[.pointer (some ⟨bc, 0, none⟩)]) := Lib.hid (by simpa using ((Box.new w #[.pointer (some ⟨bc, 0, none⟩)] 128).alloc _))
  have B3 : Hid (Box ((w.alloc (.cells #[.pointer (some ⟨bc, 0, none⟩)] 128)).alloc (.cells #[.int .i64 op, .int .i64 val, .slice at_ n ct, .int .i64 N] 53)) (w.heap.size + 1) #[.int .i64 op, .int .i64 val, .slice at_ n ct, .int .i64 N]) := Lib.hid (by simpa using (Box.new (w.alloc (.cells #[.pointer (some ⟨bc, 0, none⟩)] 128)) #[.int .i64 op, .int .i64 val, .slice at_ n ct, .int .i64 N] 53))
  have HW : Hid (Below w.heap.size w ((w.alloc (.cells #[.pointer (some ⟨bc, 0, none⟩)] 128)).alloc (.cells #[.int .i64 op, .int .i64 val, .slice at_ n ct, .int .i64 N] 53))) := Lib.hid (((Below.refl _ _).alloc (Nat.le_refl _) _).alloc (by simp) _)
  generalize ((w.alloc (.cells #[.pointer (some ⟨bc, 0, none⟩)] 128)).alloc (.cells #[.int .i64 op, .int .i64 val, .slice at_ n ct, .int .i64 N] 53)) = wv at *
  obtain ⟨lB2, cB2, fB2⟩ := B2.out
  obtain ⟨lB3, cB3, fB3⟩ := B3.out
  have HI := Lib.hid (IMap.new wv)
  have HTU := Lib.hid (Turn.refl [wv.heap.size] (wv.alloc (.map #[] 0)))
  have HLV := Lib.hid HW.out.size
  have HL3 := Lib.hid B3.out.lt
  have HL2 := Lib.hid B2.out.lt
  clear lB2 cB2 fB2 lB3 cB3 fB3
  go_upto_region 2 with (with_reducible refine wpList_put (q := .i64) (b := wv.heap.size) rfl _ _ _ _ (.inr rfl) Try.underlying124 Try.underlying3 rfl HI.out rfl ?_; intro w2 hm2 _ ht2; replace HI := Lib.hid hm2; replace HTU := Lib.hid (HTU.out.trans ht2); clear hm2 ht2)
  clear hmm
  replace HI : Hid (IMap w2 wv.heap.size endMap) := Lib.hid (by rw [← endMap_is]; exact HI.out)
  have hA0 : Below wv.heap.size wv (wv.alloc (.map #[] 0)) := (Below.refl _ _).alloc (Nat.le_refl _) _
  have hb2 : Below wv.heap.size wv w2 := hA0.trans (HTU.out.below (by simp) (fun x hx => by simp at hx; omega))
  clear HTU hA0
  obtain ⟨lB2, cB2, fB2⟩ := B2.out
  obtain ⟨lB3, cB3, fB3⟩ := B3.out
  clear lB2 cB2 fB2 lB3 cB3 fB3
  replace B2 := Lib.hid (B2.out.later hb2)
  replace B3 := Lib.hid (B3.out.later hb2)
  replace HW := Lib.hid (HW.out.trans (hb2.mono HW.out.size))
  clear hb2
  obtain ⟨lB2, cB2, fB2⟩ := B2.out
  obtain ⟨lB3, cB3, fB3⟩ := B3.out
  go_wp2_with (at_lookup; refine wpList_look (q := .i64) (z := .int .i64 0) (b := wv.heap.size) (mm := endMap) (y := op) rfl _ _ _ rfl Try.underlying124 Try.underlying3 (zeroInt _) rfl HI.out rfl ?_; rw [HMG.out])
  go_ret
  exact ⟨rfl, HW.out⟩
theorem chkEnd {w : World} {bc bm : Nat} {vp : Value} {ab : Option Addr} {nb cb : Nat} {ar ce : Int} {t : TermD} {at_ : Option Addr} {ct : Nat}
    (hb : Box w bc (chk vp (.slice ab nb cb) ar ce bm)) (hs : Ints w (.slice at_ t.to.length ct) t.to) :
    Calls Try.prog 111 #[.pointer (some ⟨bc, 0, none⟩), .agg (termA t at_ ct)] w fun e w' => e = .returned (.bool (endOk nb t)) ∧ Below w.heap.size w w' := by
  obtain ⟨op, val, to, N⟩ := t
  unfold termA
  by_cases h1 : op = 1
  · subst h1; exact chkEnd1 hb rfl hs
  · by_cases h2 : op = 2
    · subst h2; exact chkEnd2 hb rfl hs
    · by_cases h3 : op = 3
      · subst h3; exact chkEnd3 hb rfl hs
      · by_cases h4 : op = 4
        · subst h4; exact chkEnd4 hb rfl hs
        · refine (chkEndNo ⟨h1, h2, h3, h4⟩).mono fun e w' ⟨he, hw⟩ => ⟨?_, hw⟩
          rw [he]
          have : endOk nb ⟨op, val, to, N⟩ = false := by
            unfold endOk
            simp [h1, h2, h3, h4]
          rw [this]
end Go.Proofs.Ytefpmjnimnmniaa
