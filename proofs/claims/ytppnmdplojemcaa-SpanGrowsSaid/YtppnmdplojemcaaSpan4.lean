/- Sums and differences of spans, the document's. -/
import Derived.Test.YtppnmdplojemcaaSpan3
namespace Go.Proofs.Ytppnmdplojemcaa
set_option linter.unusedSimpArgs false
set_option linter.unusedVariables false
open Go.RowKit

set_option maxHeartbeats 800000 in
theorem refEmpty {w : World} (s : Sp) : Calls Try.prog 30 #[s.val] w fun e w' => e = .returned (.bool s.none) ∧ Below w.heap.size w w' := by
  unfold Sp.val
  have HB := Lib.hid (below_one w (.cells #[.int .i64 s.lo, .int .i64 s.hi] 23))
  go_enter Try.func30, Try.ntmps30
  go_wp2
  go_ret
  exact ⟨rfl, HB.out⟩
set_option maxHeartbeats 800000 in
theorem refNone {w : World} : Calls Try.prog 31 #[] w fun e w' => e = .returned (Sp.val ⟨0, -1⟩) ∧ Below w.heap.size w w' := by
  go_enter Try.func31, Try.ntmps31
  go_wp2
  exact bodyPost_ret (v := .agg #[.int .i64 0, .int .i64 (-1)]) (by simp [results, Try.results31, go_sem]) rfl ⟨rfl, below_one _ _⟩
set_option maxHeartbeats 800000 in
theorem refAll {w : World} : Calls Try.prog 33 #[] w fun e w' => e = .returned (Sp.val ⟨-9223372036854775808, 9223372036854775807⟩) ∧ Below w.heap.size w w' := by
  go_enter Try.func33, Try.ntmps33
  go_wp2
  exact bodyPost_ret (v := .agg #[.int .i64 (-9223372036854775808), .int .i64 9223372036854775807]) (by simp [results, Try.results33, go_sem]) rfl ⟨rfl, below_one _ _⟩

/-- How often 2^64 was taken off. -/
def offI (x : Int) : Int := (x - wrap64 x) / 18446744073709551616

set_option maxHeartbeats 1600000 in
theorem over {w : World} (a b : Int) (ha : In64 a) (hb : In64 b) : Calls Try.prog 32 #[.int .i64 a, .int .i64 b] w fun e w' => e = .returned (.int .i64 (offI (a + b))) ∧ w' = w := by
  obtain ⟨a1, a2⟩ := ha
  obtain ⟨b1, b2⟩ := hb
  go_enter Try.func32, Try.ntmps32
  go_wp2
  all_goals
    go_ret
    exact ⟨ret_int (by unfold offI; unfold wrap64 at *; omega), rfl⟩
set_option maxHeartbeats 1600000 in
theorem under {w : World} (a b : Int) (ha : In64 a) (hb : In64 b) : Calls Try.prog 35 #[.int .i64 a, .int .i64 b] w fun e w' => e = .returned (.int .i64 (offI (a - b))) ∧ w' = w := by
  obtain ⟨a1, a2⟩ := ha
  obtain ⟨b1, b2⟩ := hb
  go_enter Try.func35, Try.ntmps35
  go_wp2
  all_goals
    go_ret
    exact ⟨ret_int (by unfold offI; unfold wrap64 at *; omega), rfl⟩

def addQ (a b : Sp) : Sp := if a.none || b.none then ⟨0, -1⟩ else if offI (a.lo + b.lo) = offI (a.hi + b.hi) then ⟨wrap64 (a.lo + b.lo), wrap64 (a.hi + b.hi)⟩ else ⟨-9223372036854775808, 9223372036854775807⟩

def subQ (a b : Sp) : Sp := if a.none || b.none then ⟨0, -1⟩ else if offI (a.lo - b.hi) = offI (a.hi - b.lo) then ⟨wrap64 (a.lo - b.hi), wrap64 (a.hi - b.lo)⟩ else ⟨-9223372036854775808, 9223372036854775807⟩
set_option maxHeartbeats 1600000 in
theorem refAdd {w : World} (a b : Sp) (ha : a.ok) (hb : b.ok) : Calls Try.prog 11 #[a.val, b.val] w fun e w' => e = .returned (addQ a b).val ∧ Below w.heap.size w w' := by
  have HA := Lib.hid ha
  have HB := Lib.hid hb
  clear ha hb
  unfold Sp.val
  go_enter Try.func11, Try.ntmps11
  go_upto_region 1 with (fail)
  have B0 : Hid (Box (((w.alloc (.cells #[.int .i64 a.lo, .int .i64 a.hi] 23)).alloc (.cells #[.int .i64 b.lo, .int .i64 b.hi] 23)).alloc (.cells #[.int .i64 0, .int .i64 0] 23)) (w.heap.size) #[.int .i64 a.lo, .int .i64 a.hi]) := Lib.hid (by simpa using (((Box.new w #[.int .i64 a.lo, .int .i64 a.hi] 23).alloc _).alloc _))
  have B1 : Hid (Box (((w.alloc (.cells #[.int .i64 a.lo, .int .i64 a.hi] 23)).alloc (.cells #[.int .i64 b.lo, .int .i64 b.hi] 23)).alloc (.cells #[.int .i64 0, .int .i64 0] 23)) (w.heap.size + 1) #[.int .i64 b.lo, .int .i64 b.hi]) := Lib.hid (by simpa using ((Box.new (w.alloc (.cells #[.int .i64 a.lo, .int .i64 a.hi] 23)) #[.int .i64 b.lo, .int .i64 b.hi] 23).alloc _))
  have B2 : Hid (Box (((w.alloc (.cells #[.int .i64 a.lo, .int .i64 a.hi] 23)).alloc (.cells #[.int .i64 b.lo, .int .i64 b.hi] 23)).alloc (.cells #[.int .i64 0, .int .i64 0] 23)) (w.heap.size + 1 + 1) #[.int .i64 0, .int .i64 0]) := Lib.hid (by simpa using (Box.new ((w.alloc (.cells #[.int .i64 a.lo, .int .i64 a.hi] 23)).alloc (.cells #[.int .i64 b.lo, .int .i64 b.hi] 23)) #[.int .i64 0, .int .i64 0] 23))
  have HW : Hid (Below w.heap.size w (((w.alloc (.cells #[.int .i64 a.lo, .int .i64 a.hi] 23)).alloc (.cells #[.int .i64 b.lo, .int .i64 b.hi] 23)).alloc (.cells #[.int .i64 0, .int .i64 0] 23))) := Lib.hid ((((Below.refl _ _).alloc (Nat.le_refl _) _).alloc (by simp) _).alloc (by simp; omega) _)
  generalize (((w.alloc (.cells #[.int .i64 a.lo, .int .i64 a.hi] 23)).alloc (.cells #[.int .i64 b.lo, .int .i64 b.hi] 23)).alloc (.cells #[.int .i64 0, .int .i64 0] 23)) = wv at *
  obtain ⟨lB0, cB0, fB0⟩ := B0.out
  obtain ⟨lB1, cB1, fB1⟩ := B1.out
  obtain ⟨lB2, cB2, fB2⟩ := B2.out
  go_wp2_with fail
  refine (refEmpty a).mono ?_
  rintro e w4 ⟨rfl, hb4⟩
  clear lB0 cB0 fB0 lB1 cB1 fB1 lB2 cB2 fB2
  replace B0 := Lib.hid (B0.out.later hb4)
  replace B1 := Lib.hid (B1.out.later hb4)
  replace B2 := Lib.hid (B2.out.later hb4)
  replace HW := Lib.hid (HW.out.trans (hb4.mono HW.out.size))
  clear hb4
  obtain ⟨lB0, cB0, fB0⟩ := B0.out
  obtain ⟨lB1, cB1, fB1⟩ := B1.out
  obtain ⟨lB2, cB2, fB2⟩ := B2.out
  cases hea : a.none
  case true =>
    have HM := Lib.hid (show addQ a b = ⟨0, -1⟩ by unfold addQ; rw [hea]; rfl)
    clear hea
    go_wp2_with fail
    refine refNone.mono ?_
    rintro e w9 ⟨rfl, hb9⟩
    clear lB0 cB0 fB0 lB1 cB1 fB1 lB2 cB2 fB2
    replace B0 := Lib.hid (B0.out.later hb9)
    replace B1 := Lib.hid (B1.out.later hb9)
    replace B2 := Lib.hid (B2.out.later hb9)
    replace HW := Lib.hid (HW.out.trans (hb9.mono HW.out.size))
    clear hb9
    obtain ⟨lB0, cB0, fB0⟩ := B0.out
    obtain ⟨lB1, cB1, fB1⟩ := B1.out
    obtain ⟨lB2, cB2, fB2⟩ := B2.out
    unfold Sp.val
    go_wp2
    exact bodyPost_ret (v := .agg #[.int .i64 0, .int .i64 (-1)]) (by simp [results, Try.results11, go_sem, *]) rfl ⟨by rw [HM.out], (HW.out.setCell (by simp; omega) _).setCell (by simp; omega) _⟩
  case false =>
    go_wp2_with fail
    refine (refEmpty b).mono ?_
    rintro e w5 ⟨rfl, hb5⟩
    clear lB0 cB0 fB0 lB1 cB1 fB1 lB2 cB2 fB2
    replace B0 := Lib.hid (B0.out.later hb5)
    replace B1 := Lib.hid (B1.out.later hb5)
    replace B2 := Lib.hid (B2.out.later hb5)
    replace HW := Lib.hid (HW.out.trans (hb5.mono HW.out.size))
    clear hb5
    obtain ⟨lB0, cB0, fB0⟩ := B0.out
    obtain ⟨lB1, cB1, fB1⟩ := B1.out
    obtain ⟨lB2, cB2, fB2⟩ := B2.out
    cases heb : b.none
    case true =>
      have HM := Lib.hid (show addQ a b = ⟨0, -1⟩ by unfold addQ; rw [hea, heb]; rfl)
      clear hea heb
      go_wp2_with fail
      refine refNone.mono ?_
      rintro e w9 ⟨rfl, hb9⟩
      clear lB0 cB0 fB0 lB1 cB1 fB1 lB2 cB2 fB2
      replace B0 := Lib.hid (B0.out.later hb9)
      replace B1 := Lib.hid (B1.out.later hb9)
      replace B2 := Lib.hid (B2.out.later hb9)
      replace HW := Lib.hid (HW.out.trans (hb9.mono HW.out.size))
      clear hb9
      obtain ⟨lB0, cB0, fB0⟩ := B0.out
      obtain ⟨lB1, cB1, fB1⟩ := B1.out
      obtain ⟨lB2, cB2, fB2⟩ := B2.out
      unfold Sp.val
      go_wp2
      exact bodyPost_ret (v := .agg #[.int .i64 0, .int .i64 (-1)]) (by simp [results, Try.results11, go_sem, *]) rfl ⟨by rw [HM.out], (HW.out.setCell (by simp; omega) _).setCell (by simp; omega) _⟩
    case false =>
      have HM : Hid (addQ a b = if offI (a.lo + b.lo) = offI (a.hi + b.hi) then (⟨wrap64 (a.lo + b.lo), wrap64 (a.hi + b.hi)⟩ : Sp) else (⟨-9223372036854775808, 9223372036854775807⟩ : Sp)) := Lib.hid (by unfold addQ; rw [hea, heb]; rfl)
      clear hea heb
      go_wp2_with fail
      refine wp_region_grow 11 (fun k => match k with | 4 => .const (.int .i64 (offI (a.lo + b.lo))) | 9 => .const (.int .i64 (offI (a.hi + b.hi))) | _ => .plain) (by kernel_rfl) (by kernel_rfl) ?_ (fun ν => ?_)
      · (intro k; (try dsimp only); split <;> first | exact True.intro | (intro u w1 w2 hu hb; exact hu.below hb))
      simp only [List.take_succ_cons, List.take_zero, List.drop_succ_cons, List.drop_zero]
      refine Grow.val (v := ?_) rfl rfl (fun wg hbg hdg => ?_) ?_
      rotate_left
      focus ((obtain ⟨lg0, cg0, fg0⟩ := B0.out.later hbg); (obtain ⟨lg1, cg1, fg1⟩ := B1.out.later hbg); (obtain ⟨lg2, cg2, fg2⟩ := B2.out.later hbg); clear hbg hdg; first | (go_simp; done) | (go_simp; with_reducible rfl))
      simp only [Act.put, List.setIfInBounds_toArray, List.set_cons_zero, List.set_cons_succ]
      refine Grow.val (v := ?_) rfl rfl (fun wg hbg hdg => ?_) ?_
      rotate_left
      focus ((obtain ⟨lg0, cg0, fg0⟩ := B0.out.later hbg); (obtain ⟨lg1, cg1, fg1⟩ := B1.out.later hbg); (obtain ⟨lg2, cg2, fg2⟩ := B2.out.later hbg); clear hbg hdg; first | (go_simp; done) | (go_simp; with_reducible rfl))
      simp only [Act.put, List.setIfInBounds_toArray, List.set_cons_zero, List.set_cons_succ]
      refine Grow.val (v := ?_) rfl rfl (fun wg hbg hdg => ?_) ?_
      rotate_left
      focus ((obtain ⟨lg0, cg0, fg0⟩ := B0.out.later hbg); (obtain ⟨lg1, cg1, fg1⟩ := B1.out.later hbg); (obtain ⟨lg2, cg2, fg2⟩ := B2.out.later hbg); clear hbg hdg; first | (go_simp; done) | (go_simp; with_reducible rfl))
      simp only [Act.put, List.setIfInBounds_toArray, List.set_cons_zero, List.set_cons_succ]
      refine Grow.val (v := ?_) rfl rfl (fun wg hbg hdg => ?_) ?_
      rotate_left
      focus ((obtain ⟨lg0, cg0, fg0⟩ := B0.out.later hbg); (obtain ⟨lg1, cg1, fg1⟩ := B1.out.later hbg); (obtain ⟨lg2, cg2, fg2⟩ := B2.out.later hbg); clear hbg hdg; first | (go_simp; done) | (go_simp; with_reducible rfl))
      simp only [Act.put, List.setIfInBounds_toArray, List.set_cons_zero, List.set_cons_succ]
      refine Grow.call (f := ?_) (args := ?_) rfl (fun wg => ?_) (fun wg hbg hdg => ?_) ?_
      rotate_left 2
      focus (first | (go_simp; done) | (go_simp; refine And.intro ?_ ?_ <;> with_reducible rfl) | (go_simp; with_reducible rfl))
      focus exact Calls.mono (same_below (over a.lo b.lo HA.out.1 HB.out.1)) (fun e w2 ⟨he, hb2⟩ => ⟨_, he, rfl, hb2⟩)
      simp only [Act.put, Known.val, List.setIfInBounds_toArray, List.set_cons_zero, List.set_cons_succ]
      refine Grow.val (v := ?_) rfl rfl (fun wg hbg hdg => ?_) ?_
      rotate_left
      focus ((obtain ⟨lg0, cg0, fg0⟩ := B0.out.later hbg); (obtain ⟨lg1, cg1, fg1⟩ := B1.out.later hbg); (obtain ⟨lg2, cg2, fg2⟩ := B2.out.later hbg); clear hbg hdg; first | (go_simp; done) | (go_simp; with_reducible rfl))
      simp only [Act.put, List.setIfInBounds_toArray, List.set_cons_zero, List.set_cons_succ]
      refine Grow.val (v := ?_) rfl rfl (fun wg hbg hdg => ?_) ?_
      rotate_left
      focus ((obtain ⟨lg0, cg0, fg0⟩ := B0.out.later hbg); (obtain ⟨lg1, cg1, fg1⟩ := B1.out.later hbg); (obtain ⟨lg2, cg2, fg2⟩ := B2.out.later hbg); clear hbg hdg; first | (go_simp; done) | (go_simp; with_reducible rfl))
      simp only [Act.put, List.setIfInBounds_toArray, List.set_cons_zero, List.set_cons_succ]
      refine Grow.val (v := ?_) rfl rfl (fun wg hbg hdg => ?_) ?_
      rotate_left
      focus ((obtain ⟨lg0, cg0, fg0⟩ := B0.out.later hbg); (obtain ⟨lg1, cg1, fg1⟩ := B1.out.later hbg); (obtain ⟨lg2, cg2, fg2⟩ := B2.out.later hbg); clear hbg hdg; first | (go_simp; done) | (go_simp; with_reducible rfl))
      simp only [Act.put, List.setIfInBounds_toArray, List.set_cons_zero, List.set_cons_succ]
      refine Grow.val (v := ?_) rfl rfl (fun wg hbg hdg => ?_) ?_
      rotate_left
      focus ((obtain ⟨lg0, cg0, fg0⟩ := B0.out.later hbg); (obtain ⟨lg1, cg1, fg1⟩ := B1.out.later hbg); (obtain ⟨lg2, cg2, fg2⟩ := B2.out.later hbg); clear hbg hdg; first | (go_simp; done) | (go_simp; with_reducible rfl))
      simp only [Act.put, List.setIfInBounds_toArray, List.set_cons_zero, List.set_cons_succ]
      refine Grow.call (f := ?_) (args := ?_) rfl (fun wg => ?_) (fun wg hbg hdg => ?_) ?_
      rotate_left 2
      focus (first | (go_simp; done) | (go_simp; refine And.intro ?_ ?_ <;> with_reducible rfl) | (go_simp; with_reducible rfl))
      focus exact Calls.mono (same_below (over a.hi b.hi HA.out.2 HB.out.2)) (fun e w2 ⟨he, hb2⟩ => ⟨_, he, rfl, hb2⟩)
      simp only [Act.put, Known.val, List.setIfInBounds_toArray, List.set_cons_zero, List.set_cons_succ]
      refine Grow.val (v := ?_) rfl rfl (fun wg hbg hdg => ?_) ?_
      rotate_left
      focus ((obtain ⟨lg0, cg0, fg0⟩ := B0.out.later hbg); (obtain ⟨lg1, cg1, fg1⟩ := B1.out.later hbg); (obtain ⟨lg2, cg2, fg2⟩ := B2.out.later hbg); clear hbg hdg; first | (go_simp; done) | (go_simp; with_reducible rfl))
      simp only [Act.put, List.setIfInBounds_toArray, List.set_cons_zero, List.set_cons_succ]
      intro wg hb hf hap
      clear hap
      clear lB0 cB0 fB0 lB1 cB1 fB1 lB2 cB2 fB2
      replace B0 := Lib.hid (B0.out.later hb)
      replace B1 := Lib.hid (B1.out.later hb)
      replace B2 := Lib.hid (B2.out.later hb)
      replace HW := Lib.hid (HW.out.trans (hb.mono HW.out.size))
      clear hb
      obtain ⟨lB0, cB0, fB0⟩ := B0.out
      obtain ⟨lB1, cB1, fB1⟩ := B1.out
      obtain ⟨lB2, cB2, fB2⟩ := B2.out
      clear hf
      by_cases hq : offI (a.lo + b.lo) = offI (a.hi + b.hi)
      · have HQ := Lib.hid (HM.out.trans (if_pos hq))
        have hq2 : (offI (a.lo + b.lo) != offI (a.hi + b.hi)) = false := by simpa using hq
        clear hq HM
        go_wp2
        exact bodyPost_ret (v := .agg #[.int .i64 (wrap64 (a.lo + b.lo)), .int .i64 (wrap64 (a.hi + b.hi))]) (by simp [results, Try.results11, go_sem, *]) rfl ⟨by rw [HQ.out], (HW.out.setCell (by simp; omega) _).setCell (by simp; omega) _⟩
      · have HQ := Lib.hid (HM.out.trans (if_neg hq))
        have hq2 : (offI (a.lo + b.lo) != offI (a.hi + b.hi)) = true := by simpa using hq
        clear hq HM
        go_wp2_with fail
        refine refAll.mono ?_
        rintro e w9 ⟨rfl, hb9⟩
        clear lB0 cB0 fB0 lB1 cB1 fB1 lB2 cB2 fB2
        replace B0 := Lib.hid (B0.out.later hb9)
        replace B1 := Lib.hid (B1.out.later hb9)
        replace B2 := Lib.hid (B2.out.later hb9)
        replace HW := Lib.hid (HW.out.trans (hb9.mono HW.out.size))
        clear hb9
        obtain ⟨lB0, cB0, fB0⟩ := B0.out
        obtain ⟨lB1, cB1, fB1⟩ := B1.out
        obtain ⟨lB2, cB2, fB2⟩ := B2.out
        unfold Sp.val
        go_wp2
        exact bodyPost_ret (v := .agg #[.int .i64 (-9223372036854775808), .int .i64 9223372036854775807]) (by simp [results, Try.results11, go_sem, *]) rfl ⟨by rw [HQ.out], (HW.out.setCell (by simp; omega) _).setCell (by simp; omega) _⟩
set_option maxHeartbeats 1600000 in
theorem refSub {w : World} (a b : Sp) (ha : a.ok) (hb : b.ok) : Calls Try.prog 13 #[a.val, b.val] w fun e w' => e = .returned (subQ a b).val ∧ Below w.heap.size w w' := by
  have HA := Lib.hid ha
  have HB := Lib.hid hb
  clear ha hb
  unfold Sp.val
  go_enter Try.func13, Try.ntmps13
  go_upto_region 1 with (fail)
  have B0 : Hid (Box (((w.alloc (.cells #[.int .i64 a.lo, .int .i64 a.hi] 23)).alloc (.cells #[.int .i64 b.lo, .int .i64 b.hi] 23)).alloc (.cells #[.int .i64 0, .int .i64 0] 23)) (w.heap.size) #[.int .i64 a.lo, .int .i64 a.hi]) := Lib.hid (by simpa using (((Box.new w #[.int .i64 a.lo, .int .i64 a.hi] 23).alloc _).alloc _))
  have B1 : Hid (Box (((w.alloc (.cells #[.int .i64 a.lo, .int .i64 a.hi] 23)).alloc (.cells #[.int .i64 b.lo, .int .i64 b.hi] 23)).alloc (.cells #[.int .i64 0, .int .i64 0] 23)) (w.heap.size + 1) #[.int .i64 b.lo, .int .i64 b.hi]) := Lib.hid (by simpa using ((Box.new (w.alloc (.cells #[.int .i64 a.lo, .int .i64 a.hi] 23)) #[.int .i64 b.lo, .int .i64 b.hi] 23).alloc _))
  have B2 : Hid (Box (((w.alloc (.cells #[.int .i64 a.lo, .int .i64 a.hi] 23)).alloc (.cells #[.int .i64 b.lo, .int .i64 b.hi] 23)).alloc (.cells #[.int .i64 0, .int .i64 0] 23)) (w.heap.size + 1 + 1) #[.int .i64 0, .int .i64 0]) := Lib.hid (by simpa using (Box.new ((w.alloc (.cells #[.int .i64 a.lo, .int .i64 a.hi] 23)).alloc (.cells #[.int .i64 b.lo, .int .i64 b.hi] 23)) #[.int .i64 0, .int .i64 0] 23))
  have HW : Hid (Below w.heap.size w (((w.alloc (.cells #[.int .i64 a.lo, .int .i64 a.hi] 23)).alloc (.cells #[.int .i64 b.lo, .int .i64 b.hi] 23)).alloc (.cells #[.int .i64 0, .int .i64 0] 23))) := Lib.hid ((((Below.refl _ _).alloc (Nat.le_refl _) _).alloc (by simp) _).alloc (by simp; omega) _)
  generalize (((w.alloc (.cells #[.int .i64 a.lo, .int .i64 a.hi] 23)).alloc (.cells #[.int .i64 b.lo, .int .i64 b.hi] 23)).alloc (.cells #[.int .i64 0, .int .i64 0] 23)) = wv at *
  obtain ⟨lB0, cB0, fB0⟩ := B0.out
  obtain ⟨lB1, cB1, fB1⟩ := B1.out
  obtain ⟨lB2, cB2, fB2⟩ := B2.out
  go_wp2_with fail
  refine (refEmpty a).mono ?_
  rintro e w4 ⟨rfl, hb4⟩
  clear lB0 cB0 fB0 lB1 cB1 fB1 lB2 cB2 fB2
  replace B0 := Lib.hid (B0.out.later hb4)
  replace B1 := Lib.hid (B1.out.later hb4)
  replace B2 := Lib.hid (B2.out.later hb4)
  replace HW := Lib.hid (HW.out.trans (hb4.mono HW.out.size))
  clear hb4
  obtain ⟨lB0, cB0, fB0⟩ := B0.out
  obtain ⟨lB1, cB1, fB1⟩ := B1.out
  obtain ⟨lB2, cB2, fB2⟩ := B2.out
  cases hea : a.none
  case true =>
    have HM := Lib.hid (show subQ a b = ⟨0, -1⟩ by unfold subQ; rw [hea]; rfl)
    clear hea
    go_wp2_with fail
    refine refNone.mono ?_
    rintro e w9 ⟨rfl, hb9⟩
    clear lB0 cB0 fB0 lB1 cB1 fB1 lB2 cB2 fB2
    replace B0 := Lib.hid (B0.out.later hb9)
    replace B1 := Lib.hid (B1.out.later hb9)
    replace B2 := Lib.hid (B2.out.later hb9)
    replace HW := Lib.hid (HW.out.trans (hb9.mono HW.out.size))
    clear hb9
    obtain ⟨lB0, cB0, fB0⟩ := B0.out
    obtain ⟨lB1, cB1, fB1⟩ := B1.out
    obtain ⟨lB2, cB2, fB2⟩ := B2.out
    unfold Sp.val
    go_wp2
    exact bodyPost_ret (v := .agg #[.int .i64 0, .int .i64 (-1)]) (by simp [results, Try.results13, go_sem, *]) rfl ⟨by rw [HM.out], (HW.out.setCell (by simp; omega) _).setCell (by simp; omega) _⟩
  case false =>
    go_wp2_with fail
    refine (refEmpty b).mono ?_
    rintro e w5 ⟨rfl, hb5⟩
    clear lB0 cB0 fB0 lB1 cB1 fB1 lB2 cB2 fB2
    replace B0 := Lib.hid (B0.out.later hb5)
    replace B1 := Lib.hid (B1.out.later hb5)
    replace B2 := Lib.hid (B2.out.later hb5)
    replace HW := Lib.hid (HW.out.trans (hb5.mono HW.out.size))
    clear hb5
    obtain ⟨lB0, cB0, fB0⟩ := B0.out
    obtain ⟨lB1, cB1, fB1⟩ := B1.out
    obtain ⟨lB2, cB2, fB2⟩ := B2.out
    cases heb : b.none
    case true =>
      have HM := Lib.hid (show subQ a b = ⟨0, -1⟩ by unfold subQ; rw [hea, heb]; rfl)
      clear hea heb
      go_wp2_with fail
      refine refNone.mono ?_
      rintro e w9 ⟨rfl, hb9⟩
      clear lB0 cB0 fB0 lB1 cB1 fB1 lB2 cB2 fB2
      replace B0 := Lib.hid (B0.out.later hb9)
      replace B1 := Lib.hid (B1.out.later hb9)
      replace B2 := Lib.hid (B2.out.later hb9)
      replace HW := Lib.hid (HW.out.trans (hb9.mono HW.out.size))
      clear hb9
      obtain ⟨lB0, cB0, fB0⟩ := B0.out
      obtain ⟨lB1, cB1, fB1⟩ := B1.out
      obtain ⟨lB2, cB2, fB2⟩ := B2.out
      unfold Sp.val
      go_wp2
      exact bodyPost_ret (v := .agg #[.int .i64 0, .int .i64 (-1)]) (by simp [results, Try.results13, go_sem, *]) rfl ⟨by rw [HM.out], (HW.out.setCell (by simp; omega) _).setCell (by simp; omega) _⟩
    case false =>
      have HM : Hid (subQ a b = if offI (a.lo - b.hi) = offI (a.hi - b.lo) then (⟨wrap64 (a.lo - b.hi), wrap64 (a.hi - b.lo)⟩ : Sp) else (⟨-9223372036854775808, 9223372036854775807⟩ : Sp)) := Lib.hid (by unfold subQ; rw [hea, heb]; rfl)
      clear hea heb
      go_wp2_with fail
      refine wp_region_grow 11 (fun k => match k with | 4 => .const (.int .i64 (offI (a.lo - b.hi))) | 9 => .const (.int .i64 (offI (a.hi - b.lo))) | _ => .plain) (by kernel_rfl) (by kernel_rfl) ?_ (fun ν => ?_)
      · (intro k; (try dsimp only); split <;> first | exact True.intro | (intro u w1 w2 hu hb; exact hu.below hb))
      simp only [List.take_succ_cons, List.take_zero, List.drop_succ_cons, List.drop_zero]
      refine Grow.val (v := ?_) rfl rfl (fun wg hbg hdg => ?_) ?_
      rotate_left
      focus ((obtain ⟨lg0, cg0, fg0⟩ := B0.out.later hbg); (obtain ⟨lg1, cg1, fg1⟩ := B1.out.later hbg); (obtain ⟨lg2, cg2, fg2⟩ := B2.out.later hbg); clear hbg hdg; first | (go_simp; done) | (go_simp; with_reducible rfl))
      simp only [Act.put, List.setIfInBounds_toArray, List.set_cons_zero, List.set_cons_succ]
      refine Grow.val (v := ?_) rfl rfl (fun wg hbg hdg => ?_) ?_
      rotate_left
      focus ((obtain ⟨lg0, cg0, fg0⟩ := B0.out.later hbg); (obtain ⟨lg1, cg1, fg1⟩ := B1.out.later hbg); (obtain ⟨lg2, cg2, fg2⟩ := B2.out.later hbg); clear hbg hdg; first | (go_simp; done) | (go_simp; with_reducible rfl))
      simp only [Act.put, List.setIfInBounds_toArray, List.set_cons_zero, List.set_cons_succ]
      refine Grow.val (v := ?_) rfl rfl (fun wg hbg hdg => ?_) ?_
      rotate_left
      focus ((obtain ⟨lg0, cg0, fg0⟩ := B0.out.later hbg); (obtain ⟨lg1, cg1, fg1⟩ := B1.out.later hbg); (obtain ⟨lg2, cg2, fg2⟩ := B2.out.later hbg); clear hbg hdg; first | (go_simp; done) | (go_simp; with_reducible rfl))
      simp only [Act.put, List.setIfInBounds_toArray, List.set_cons_zero, List.set_cons_succ]
      refine Grow.val (v := ?_) rfl rfl (fun wg hbg hdg => ?_) ?_
      rotate_left
      focus ((obtain ⟨lg0, cg0, fg0⟩ := B0.out.later hbg); (obtain ⟨lg1, cg1, fg1⟩ := B1.out.later hbg); (obtain ⟨lg2, cg2, fg2⟩ := B2.out.later hbg); clear hbg hdg; first | (go_simp; done) | (go_simp; with_reducible rfl))
      simp only [Act.put, List.setIfInBounds_toArray, List.set_cons_zero, List.set_cons_succ]
      refine Grow.call (f := ?_) (args := ?_) rfl (fun wg => ?_) (fun wg hbg hdg => ?_) ?_
      rotate_left 2
      focus (first | (go_simp; done) | (go_simp; refine And.intro ?_ ?_ <;> with_reducible rfl) | (go_simp; with_reducible rfl))
      focus exact Calls.mono (same_below (under a.lo b.hi HA.out.1 HB.out.2)) (fun e w2 ⟨he, hb2⟩ => ⟨_, he, rfl, hb2⟩)
      simp only [Act.put, Known.val, List.setIfInBounds_toArray, List.set_cons_zero, List.set_cons_succ]
      refine Grow.val (v := ?_) rfl rfl (fun wg hbg hdg => ?_) ?_
      rotate_left
      focus ((obtain ⟨lg0, cg0, fg0⟩ := B0.out.later hbg); (obtain ⟨lg1, cg1, fg1⟩ := B1.out.later hbg); (obtain ⟨lg2, cg2, fg2⟩ := B2.out.later hbg); clear hbg hdg; first | (go_simp; done) | (go_simp; with_reducible rfl))
      simp only [Act.put, List.setIfInBounds_toArray, List.set_cons_zero, List.set_cons_succ]
      refine Grow.val (v := ?_) rfl rfl (fun wg hbg hdg => ?_) ?_
      rotate_left
      focus ((obtain ⟨lg0, cg0, fg0⟩ := B0.out.later hbg); (obtain ⟨lg1, cg1, fg1⟩ := B1.out.later hbg); (obtain ⟨lg2, cg2, fg2⟩ := B2.out.later hbg); clear hbg hdg; first | (go_simp; done) | (go_simp; with_reducible rfl))
      simp only [Act.put, List.setIfInBounds_toArray, List.set_cons_zero, List.set_cons_succ]
      refine Grow.val (v := ?_) rfl rfl (fun wg hbg hdg => ?_) ?_
      rotate_left
      focus ((obtain ⟨lg0, cg0, fg0⟩ := B0.out.later hbg); (obtain ⟨lg1, cg1, fg1⟩ := B1.out.later hbg); (obtain ⟨lg2, cg2, fg2⟩ := B2.out.later hbg); clear hbg hdg; first | (go_simp; done) | (go_simp; with_reducible rfl))
      simp only [Act.put, List.setIfInBounds_toArray, List.set_cons_zero, List.set_cons_succ]
      refine Grow.val (v := ?_) rfl rfl (fun wg hbg hdg => ?_) ?_
      rotate_left
      focus ((obtain ⟨lg0, cg0, fg0⟩ := B0.out.later hbg); (obtain ⟨lg1, cg1, fg1⟩ := B1.out.later hbg); (obtain ⟨lg2, cg2, fg2⟩ := B2.out.later hbg); clear hbg hdg; first | (go_simp; done) | (go_simp; with_reducible rfl))
      simp only [Act.put, List.setIfInBounds_toArray, List.set_cons_zero, List.set_cons_succ]
      refine Grow.call (f := ?_) (args := ?_) rfl (fun wg => ?_) (fun wg hbg hdg => ?_) ?_
      rotate_left 2
      focus (first | (go_simp; done) | (go_simp; refine And.intro ?_ ?_ <;> with_reducible rfl) | (go_simp; with_reducible rfl))
      focus exact Calls.mono (same_below (under a.hi b.lo HA.out.2 HB.out.1)) (fun e w2 ⟨he, hb2⟩ => ⟨_, he, rfl, hb2⟩)
      simp only [Act.put, Known.val, List.setIfInBounds_toArray, List.set_cons_zero, List.set_cons_succ]
      refine Grow.val (v := ?_) rfl rfl (fun wg hbg hdg => ?_) ?_
      rotate_left
      focus ((obtain ⟨lg0, cg0, fg0⟩ := B0.out.later hbg); (obtain ⟨lg1, cg1, fg1⟩ := B1.out.later hbg); (obtain ⟨lg2, cg2, fg2⟩ := B2.out.later hbg); clear hbg hdg; first | (go_simp; done) | (go_simp; with_reducible rfl))
      simp only [Act.put, List.setIfInBounds_toArray, List.set_cons_zero, List.set_cons_succ]
      intro wg hb hf hap
      clear hap
      clear lB0 cB0 fB0 lB1 cB1 fB1 lB2 cB2 fB2
      replace B0 := Lib.hid (B0.out.later hb)
      replace B1 := Lib.hid (B1.out.later hb)
      replace B2 := Lib.hid (B2.out.later hb)
      replace HW := Lib.hid (HW.out.trans (hb.mono HW.out.size))
      clear hb
      obtain ⟨lB0, cB0, fB0⟩ := B0.out
      obtain ⟨lB1, cB1, fB1⟩ := B1.out
      obtain ⟨lB2, cB2, fB2⟩ := B2.out
      clear hf
      by_cases hq : offI (a.lo - b.hi) = offI (a.hi - b.lo)
      · have HQ := Lib.hid (HM.out.trans (if_pos hq))
        have hq2 : (offI (a.lo - b.hi) != offI (a.hi - b.lo)) = false := by simpa using hq
        clear hq HM
        go_wp2
        exact bodyPost_ret (v := .agg #[.int .i64 (wrap64 (a.lo - b.hi)), .int .i64 (wrap64 (a.hi - b.lo))]) (by simp [results, Try.results13, go_sem, *]) rfl ⟨by rw [HQ.out], (HW.out.setCell (by simp; omega) _).setCell (by simp; omega) _⟩
      · have HQ := Lib.hid (HM.out.trans (if_neg hq))
        have hq2 : (offI (a.lo - b.hi) != offI (a.hi - b.lo)) = true := by simpa using hq
        clear hq HM
        go_wp2_with fail
        refine refAll.mono ?_
        rintro e w9 ⟨rfl, hb9⟩
        clear lB0 cB0 fB0 lB1 cB1 fB1 lB2 cB2 fB2
        replace B0 := Lib.hid (B0.out.later hb9)
        replace B1 := Lib.hid (B1.out.later hb9)
        replace B2 := Lib.hid (B2.out.later hb9)
        replace HW := Lib.hid (HW.out.trans (hb9.mono HW.out.size))
        clear hb9
        obtain ⟨lB0, cB0, fB0⟩ := B0.out
        obtain ⟨lB1, cB1, fB1⟩ := B1.out
        obtain ⟨lB2, cB2, fB2⟩ := B2.out
        unfold Sp.val
        go_wp2
        exact bodyPost_ret (v := .agg #[.int .i64 (-9223372036854775808), .int .i64 9223372036854775807]) (by simp [results, Try.results13, go_sem, *]) rfl ⟨by rw [HQ.out], (HW.out.setCell (by simp; omega) _).setCell (by simp; omega) _⟩
end Go.Proofs.Ytppnmdplojemcaa
