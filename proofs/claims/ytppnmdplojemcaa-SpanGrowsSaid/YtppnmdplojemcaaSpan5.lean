/- The two sums are one; which is below which; awake; the law of sums. -/
import Derived.Test.YtppnmdplojemcaaSpan4
namespace Go.Proofs.Ytppnmdplojemcaa
set_option linter.unusedSimpArgs false
set_option linter.unusedVariables false
open Go.RowKit

theorem Sp.none_iff (s : Sp) : s.none = true ↔ s.hi < s.lo := by simp [Sp.none]
theorem fold_eq (x y : Int) (h1 : -18446744073709551616 ≤ x) (h2 : x < 18446744073709551616) (k1 : -18446744073709551616 ≤ y) (k2 : y < 18446744073709551616) (h l g k : Int)
    (e1 : x = h * 18446744073709551616 + l) (l1 : 0 ≤ l) (l2 : l < 18446744073709551616) (e2 : y = g * 18446744073709551616 + k) (m1 : 0 ≤ k) (m2 : k < 18446744073709551616) :
    foldR h l g k = if offI x = offI y then ⟨wrap64 x, wrap64 y⟩ else ⟨-9223372036854775808, 9223372036854775807⟩ := by
  unfold foldR offI
  have a1 : (x - wrap64 x) / 18446744073709551616 = h + l / 9223372036854775808 := by unfold wrap64; omega
  have a2 : (y - wrap64 y) / 18446744073709551616 = g + k / 9223372036854775808 := by unfold wrap64; omega
  rw [a1, a2]
  split
  · have b1 : wrap64 l = wrap64 x := by unfold wrap64; omega
    have b2 : wrap64 k = wrap64 y := by unfold wrap64; omega
    rw [b1, b2]
  · rfl
theorem addS_eq (a b : Sp) (ha : a.ok) (hb : b.ok) : addS a b = addQ a b := by
  obtain ⟨⟨a1, a2⟩, a3, a4⟩ := ha
  obtain ⟨⟨b1, b2⟩, b3, b4⟩ := hb
  unfold addS addQ
  split
  · rfl
  · exact fold_eq _ _ (by omega) (by omega) (by omega) (by omega) _ _ _ _ (by unfold whi wlo; omega) (by omega) (by omega) (by unfold whi wlo; omega) (by omega) (by omega)
theorem subS_eq (a b : Sp) (ha : a.ok) (hb : b.ok) : subS a b = subQ a b := by
  obtain ⟨⟨a1, a2⟩, a3, a4⟩ := ha
  obtain ⟨⟨b1, b2⟩, b3, b4⟩ := hb
  unfold subS subQ
  split
  · rfl
  · exact fold_eq _ _ (by omega) (by omega) (by omega) (by omega) _ _ _ _ (by unfold whi wlo; omega) (by omega) (by omega) (by unfold whi wlo; omega) (by omega) (by omega)

theorem addQ_ok (a b : Sp) : (addQ a b).ok := by
  unfold addQ; repeat' split
  · exact ⟨⟨by decide, by decide⟩, by decide, by decide⟩
  · exact ⟨wrap_In _, wrap_In _⟩
  · exact ⟨⟨by decide, by decide⟩, by decide, by decide⟩
theorem subQ_ok (a b : Sp) : (subQ a b).ok := by
  unfold subQ; repeat' split
  · exact ⟨⟨by decide, by decide⟩, by decide, by decide⟩
  · exact ⟨wrap_In _, wrap_In _⟩
  · exact ⟨⟨by decide, by decide⟩, by decide, by decide⟩

def lessI (a b : Sp) : Int := if a.none || b.none then -1 else if a.hi < b.lo then 1 else if b.hi ≤ a.lo then 0 else -1

set_option maxHeartbeats 1600000 in
theorem spanLess {w : World} (a b : Sp) (ha : a.ok) (hb : b.ok) : Calls Try.prog 20 #[a.val, b.val] w fun e w' => e = .returned (.int .i64 (lessI a b)) ∧ Below w.heap.size w w' := by
  have HA := Lib.hid ha
  have HB := Lib.hid hb
  clear ha hb
  have HE := Lib.hid (show [a, b].any Sp.none = (a.none || b.none) by simp)
  unfold Sp.val
  go_enter Try.func20, Try.ntmps20
  go_upto_region 1 with (fail)
  have B0 : Hid (Box ((w.alloc (.cells #[.int .i64 a.lo, .int .i64 a.hi] 23)).alloc (.cells #[.int .i64 b.lo, .int .i64 b.hi] 23)) (w.heap.size) #[.int .i64 a.lo, .int .i64 a.hi]) := Lib.hid (by simpa using ((Box.new w #[.int .i64 a.lo, .int .i64 a.hi] 23).alloc _))
  have B1 : Hid (Box ((w.alloc (.cells #[.int .i64 a.lo, .int .i64 a.hi] 23)).alloc (.cells #[.int .i64 b.lo, .int .i64 b.hi] 23)) (w.heap.size + 1) #[.int .i64 b.lo, .int .i64 b.hi]) := Lib.hid (by simpa using (Box.new (w.alloc (.cells #[.int .i64 a.lo, .int .i64 a.hi] 23)) #[.int .i64 b.lo, .int .i64 b.hi] 23))
  have HW : Hid (Below w.heap.size w ((w.alloc (.cells #[.int .i64 a.lo, .int .i64 a.hi] 23)).alloc (.cells #[.int .i64 b.lo, .int .i64 b.hi] 23))) := Lib.hid (((Below.refl _ _).alloc (Nat.le_refl _) _).alloc (by simp) _)
  generalize ((w.alloc (.cells #[.int .i64 a.lo, .int .i64 a.hi] 23)).alloc (.cells #[.int .i64 b.lo, .int .i64 b.hi] 23)) = wv at *
  obtain ⟨lB0, cB0, fB0⟩ := B0.out
  obtain ⟨lB1, cB1, fB1⟩ := B1.out
  go_wp2_with fail
  refine (empty (spans_two HA.out HB.out)).mono ?_
  rintro e w4 ⟨rfl, hb4⟩
  replace hb4 := below_alloc hb4
  clear lB0 cB0 fB0 lB1 cB1 fB1
  replace B0 := Lib.hid (B0.out.later hb4)
  replace B1 := Lib.hid (B1.out.later hb4)
  replace HW := Lib.hid (HW.out.trans (hb4.mono HW.out.size))
  clear hb4
  obtain ⟨lB0, cB0, fB0⟩ := B0.out
  obtain ⟨lB1, cB1, fB1⟩ := B1.out
  rw [HE.out]
  cases hem : (a.none || b.none)
  case true =>
    have HM := Lib.hid (show lessI a b = -1 by unfold lessI; rw [hem]; rfl)
    clear hem
    go_wp2
    go_ret
    exact ⟨ret_int HM.out.symm, HW.out⟩
  case false =>
    have HM := Lib.hid (show lessI a b = if a.hi < b.lo then 1 else if b.hi ≤ a.lo then 0 else -1 by unfold lessI; rw [hem]; rfl)
    clear hem
    go_wp2
    all_goals
      go_ret
      exact ⟨ret_int (by rw [HM.out]; (repeat' split) <;> omega), HW.out⟩

set_option maxHeartbeats 1600000 in
theorem refLess {w : World} (a b : Sp) : Calls Try.prog 21 #[a.val, b.val] w fun e w' => e = .returned (.int .i64 (lessI a b)) ∧ Below w.heap.size w w' := by
  unfold Sp.val
  go_enter Try.func21, Try.ntmps21
  go_upto_region 1 with (fail)
  have B0 : Hid (Box ((w.alloc (.cells #[.int .i64 a.lo, .int .i64 a.hi] 23)).alloc (.cells #[.int .i64 b.lo, .int .i64 b.hi] 23)) (w.heap.size) #[.int .i64 a.lo, .int .i64 a.hi]) := Lib.hid (by simpa using ((Box.new w #[.int .i64 a.lo, .int .i64 a.hi] 23).alloc _))
  have B1 : Hid (Box ((w.alloc (.cells #[.int .i64 a.lo, .int .i64 a.hi] 23)).alloc (.cells #[.int .i64 b.lo, .int .i64 b.hi] 23)) (w.heap.size + 1) #[.int .i64 b.lo, .int .i64 b.hi]) := Lib.hid (by simpa using (Box.new (w.alloc (.cells #[.int .i64 a.lo, .int .i64 a.hi] 23)) #[.int .i64 b.lo, .int .i64 b.hi] 23))
  have HW : Hid (Below w.heap.size w ((w.alloc (.cells #[.int .i64 a.lo, .int .i64 a.hi] 23)).alloc (.cells #[.int .i64 b.lo, .int .i64 b.hi] 23))) := Lib.hid (((Below.refl _ _).alloc (Nat.le_refl _) _).alloc (by simp) _)
  generalize ((w.alloc (.cells #[.int .i64 a.lo, .int .i64 a.hi] 23)).alloc (.cells #[.int .i64 b.lo, .int .i64 b.hi] 23)) = wv at *
  obtain ⟨lB0, cB0, fB0⟩ := B0.out
  obtain ⟨lB1, cB1, fB1⟩ := B1.out
  go_wp2_with fail
  refine (refEmpty a).mono ?_
  rintro e w4 ⟨rfl, hb4⟩
  clear lB0 cB0 fB0 lB1 cB1 fB1
  replace B0 := Lib.hid (B0.out.later hb4)
  replace B1 := Lib.hid (B1.out.later hb4)
  replace HW := Lib.hid (HW.out.trans (hb4.mono HW.out.size))
  clear hb4
  obtain ⟨lB0, cB0, fB0⟩ := B0.out
  obtain ⟨lB1, cB1, fB1⟩ := B1.out
  cases hea : a.none
  case true =>
    have HM := Lib.hid (show lessI a b = -1 by unfold lessI; rw [hea]; rfl)
    clear hea
    go_wp2
    go_ret
    exact ⟨ret_int HM.out.symm, HW.out⟩
  case false =>
    go_wp2_with fail
    refine (refEmpty b).mono ?_
    rintro e w5 ⟨rfl, hb5⟩
    clear lB0 cB0 fB0 lB1 cB1 fB1
    replace B0 := Lib.hid (B0.out.later hb5)
    replace B1 := Lib.hid (B1.out.later hb5)
    replace HW := Lib.hid (HW.out.trans (hb5.mono HW.out.size))
    clear hb5
    obtain ⟨lB0, cB0, fB0⟩ := B0.out
    obtain ⟨lB1, cB1, fB1⟩ := B1.out
    cases heb : b.none
    case true =>
      have HM := Lib.hid (show lessI a b = -1 by unfold lessI; rw [hea, heb]; rfl)
      clear hea heb
      go_wp2
      go_ret
      exact ⟨ret_int HM.out.symm, HW.out⟩
    case false =>
      have HM := Lib.hid (show lessI a b = if a.hi < b.lo then 1 else if b.hi ≤ a.lo then 0 else -1 by unfold lessI; rw [hea, heb]; rfl)
      clear hea heb
      go_wp2
      all_goals
        go_ret
        exact ⟨ret_int (by rw [HM.out]; (repeat' split) <;> omega), HW.out⟩

set_option maxHeartbeats 1600000 in
theorem awakeSpan {w : World} : Calls Try.prog 9 #[] w fun e w' => e = .returned (.bool true) ∧ Below w.heap.size w w' := by
  have E1 : addS ⟨1, 2⟩ ⟨10, 20⟩ = ⟨11, 22⟩ := by unfold addS foldR; simp [Sp.none, whi, wlo, wrap64]
  have E2 : lessI ⟨1, 2⟩ ⟨11, 22⟩ = 1 := by unfold lessI; simp [Sp.none]
  have o1 : Sp.ok ⟨1, 2⟩ := ⟨⟨by decide, by decide⟩, by decide, by decide⟩
  have o2 : Sp.ok ⟨10, 20⟩ := ⟨⟨by decide, by decide⟩, by decide, by decide⟩
  have o3 : Sp.ok ⟨11, 22⟩ := ⟨⟨by decide, by decide⟩, by decide, by decide⟩
  have C1 := Lib.hid (fun w : World => E1 ▸ spanAdd (w := w) ⟨1, 2⟩ ⟨10, 20⟩ o1 o2)
  have C2 := Lib.hid (fun w : World => E2 ▸ spanLess (w := w) ⟨1, 2⟩ ⟨11, 22⟩ o1 o3)
  clear E1 E2 o1 o2 o3
  unfold Sp.val at C1 C2
  go_enter Try.func9, Try.ntmps9
  go_wp2_with fail
  refine (C1.out _).mono ?_
  rintro e w4 ⟨rfl, hb4⟩
  have HW := Lib.hid hb4
  clear hb4
  go_wp2_with fail
  refine (C2.out _).mono ?_
  rintro e w5 ⟨rfl, hb5⟩
  replace HW := Lib.hid (HW.out.trans ((below_alloc hb5).mono HW.out.size))
  clear hb5
  go_wp2
  go_ret
  exact ⟨rfl, HW.out⟩

set_option maxHeartbeats 1600000 in
theorem walkSums {w : World} (a b : Sp) (ha : a.ok) (hb : b.ok) : Calls Try.prog 3 #[a.val, b.val] w fun e w' => e = .returned (.bool true) ∧ Below w.heap.size w w' := by
  have C1 := Lib.hid (fun w : World => addS_eq a b ha hb ▸ spanAdd (w := w) a b ha hb)
  have C2 := Lib.hid (fun w : World => refAdd (w := w) a b ha hb)
  have C3 := Lib.hid (fun w : World => subS_eq a b ha hb ▸ spanSub (w := w) a b ha hb)
  have C4 := Lib.hid (fun w : World => refSub (w := w) a b ha hb)
  clear ha hb
  unfold Sp.val at C1 C2 C3 C4 ⊢
  go_enter Try.func3, Try.ntmps3
  go_upto_region 1 with (fail)
  have B0 : Hid (Box ((w.alloc (.cells #[.int .i64 a.lo, .int .i64 a.hi] 23)).alloc (.cells #[.int .i64 b.lo, .int .i64 b.hi] 23)) (w.heap.size) #[.int .i64 a.lo, .int .i64 a.hi]) := Lib.hid (by simpa using ((Box.new w #[.int .i64 a.lo, .int .i64 a.hi] 23).alloc _))
  have B1 : Hid (Box ((w.alloc (.cells #[.int .i64 a.lo, .int .i64 a.hi] 23)).alloc (.cells #[.int .i64 b.lo, .int .i64 b.hi] 23)) (w.heap.size + 1) #[.int .i64 b.lo, .int .i64 b.hi]) := Lib.hid (by simpa using (Box.new (w.alloc (.cells #[.int .i64 a.lo, .int .i64 a.hi] 23)) #[.int .i64 b.lo, .int .i64 b.hi] 23))
  have HW : Hid (Below w.heap.size w ((w.alloc (.cells #[.int .i64 a.lo, .int .i64 a.hi] 23)).alloc (.cells #[.int .i64 b.lo, .int .i64 b.hi] 23))) := Lib.hid (((Below.refl _ _).alloc (Nat.le_refl _) _).alloc (by simp) _)
  generalize ((w.alloc (.cells #[.int .i64 a.lo, .int .i64 a.hi] 23)).alloc (.cells #[.int .i64 b.lo, .int .i64 b.hi] 23)) = wv at *
  obtain ⟨lB0, cB0, fB0⟩ := B0.out
  obtain ⟨lB1, cB1, fB1⟩ := B1.out
  refine wp_region_grow 20 (fun k => match k with | 0 => .const (.bool true) | 4 => .const (.agg #[.int .i64 (addQ a b).lo, .int .i64 (addQ a b).hi]) | 7 => .const (.agg #[.int .i64 (addQ a b).lo, .int .i64 (addQ a b).hi]) | 13 => .const (.agg #[.int .i64 (subQ a b).lo, .int .i64 (subQ a b).hi]) | 16 => .const (.agg #[.int .i64 (subQ a b).lo, .int .i64 (subQ a b).hi]) | _ => .plain) (by kernel_rfl) (by kernel_rfl) ?_ (fun ν => ?_)
  · (intro k; (try dsimp only); split <;> first | exact True.intro | (intro u w1 w2 hu hb; exact hu.below hb))
  simp only [List.take_succ_cons, List.take_zero, List.drop_succ_cons, List.drop_zero]
  refine Grow.call (f := ?_) (args := ?_) rfl (fun wg => ?_) (fun wg hbg hdg => ?_) ?_
  rotate_left 2
  focus (first | (go_simp; done) | (go_simp; refine And.intro ?_ ?_ <;> with_reducible rfl) | (go_simp; with_reducible rfl))
  focus exact Calls.mono (awakeSpan) (fun e w2 ⟨he, hb2⟩ => ⟨_, he, rfl, hb2⟩)
  simp only [Act.put, Known.val, List.setIfInBounds_toArray, List.set_cons_zero, List.set_cons_succ]
  refine Grow.val (v := ?_) rfl rfl (fun wg hbg hdg => ?_) ?_
  rotate_left
  focus ((obtain ⟨lg0, cg0, fg0⟩ := B0.out.later hbg); (obtain ⟨lg1, cg1, fg1⟩ := B1.out.later hbg); clear hbg hdg; first | (go_simp; done) | (go_simp; with_reducible rfl))
  simp only [Act.put, List.setIfInBounds_toArray, List.set_cons_zero, List.set_cons_succ]
  refine Grow.val (v := ?_) rfl rfl (fun wg hbg hdg => ?_) ?_
  rotate_left
  focus ((obtain ⟨lg0, cg0, fg0⟩ := B0.out.later hbg); (obtain ⟨lg1, cg1, fg1⟩ := B1.out.later hbg); clear hbg hdg; first | (go_simp; done) | (go_simp; with_reducible rfl))
  simp only [Act.put, List.setIfInBounds_toArray, List.set_cons_zero, List.set_cons_succ]
  refine Grow.val (v := ?_) rfl rfl (fun wg hbg hdg => ?_) ?_
  rotate_left
  focus ((obtain ⟨lg0, cg0, fg0⟩ := B0.out.later hbg); (obtain ⟨lg1, cg1, fg1⟩ := B1.out.later hbg); clear hbg hdg; first | (go_simp; done) | (go_simp; with_reducible rfl))
  simp only [Act.put, List.setIfInBounds_toArray, List.set_cons_zero, List.set_cons_succ]
  refine Grow.call (f := ?_) (args := ?_) rfl (fun wg => ?_) (fun wg hbg hdg => ?_) ?_
  rotate_left 2
  focus (first | (go_simp; done) | (go_simp; refine And.intro ?_ ?_ <;> with_reducible rfl) | (go_simp; with_reducible rfl))
  focus exact Calls.mono (C1.out wg) (fun e w2 ⟨he, hb2⟩ => ⟨_, he, rfl, hb2⟩)
  simp only [Act.put, Known.val, List.setIfInBounds_toArray, List.set_cons_zero, List.set_cons_succ]
  refine Grow.val (v := ?_) rfl rfl (fun wg hbg hdg => ?_) ?_
  rotate_left
  focus ((obtain ⟨lg0, cg0, fg0⟩ := B0.out.later hbg); (obtain ⟨lg1, cg1, fg1⟩ := B1.out.later hbg); clear hbg hdg; first | (go_simp; done) | (go_simp; with_reducible rfl))
  simp only [Act.put, List.setIfInBounds_toArray, List.set_cons_zero, List.set_cons_succ]
  refine Grow.val (v := ?_) rfl rfl (fun wg hbg hdg => ?_) ?_
  rotate_left
  focus ((obtain ⟨lg0, cg0, fg0⟩ := B0.out.later hbg); (obtain ⟨lg1, cg1, fg1⟩ := B1.out.later hbg); clear hbg hdg; first | (go_simp; done) | (go_simp; with_reducible rfl))
  simp only [Act.put, List.setIfInBounds_toArray, List.set_cons_zero, List.set_cons_succ]
  refine Grow.call (f := ?_) (args := ?_) rfl (fun wg => ?_) (fun wg hbg hdg => ?_) ?_
  rotate_left 2
  focus (first | (go_simp; done) | (go_simp; refine And.intro ?_ ?_ <;> with_reducible rfl) | (go_simp; with_reducible rfl))
  focus exact Calls.mono (C2.out wg) (fun e w2 ⟨he, hb2⟩ => ⟨_, he, rfl, hb2⟩)
  simp only [Act.put, Known.val, List.setIfInBounds_toArray, List.set_cons_zero, List.set_cons_succ]
  refine Grow.val (v := ?_) rfl rfl (fun wg hbg hdg => ?_) ?_
  rotate_left
  focus ((obtain ⟨lg0, cg0, fg0⟩ := B0.out.later hbg); (obtain ⟨lg1, cg1, fg1⟩ := B1.out.later hbg); clear hbg hdg; first | (go_simp; done) | (go_simp; with_reducible rfl))
  simp only [Act.put, List.setIfInBounds_toArray, List.set_cons_zero, List.set_cons_succ]
  refine Grow.val (v := ?_) rfl rfl (fun wg hbg hdg => ?_) ?_
  rotate_left
  focus ((obtain ⟨lg0, cg0, fg0⟩ := B0.out.later hbg); (obtain ⟨lg1, cg1, fg1⟩ := B1.out.later hbg); clear hbg hdg; first | (go_simp; done) | (go_simp; with_reducible rfl))
  simp only [Act.put, List.setIfInBounds_toArray, List.set_cons_zero, List.set_cons_succ]
  refine Grow.val (v := ?_) rfl rfl (fun wg hbg hdg => ?_) ?_
  rotate_left
  focus ((obtain ⟨lg0, cg0, fg0⟩ := B0.out.later hbg); (obtain ⟨lg1, cg1, fg1⟩ := B1.out.later hbg); clear hbg hdg; first | (go_simp; done) | (go_simp; with_reducible rfl))
  simp only [Act.put, List.setIfInBounds_toArray, List.set_cons_zero, List.set_cons_succ]
  refine Grow.val (v := ?_) rfl rfl (fun wg hbg hdg => ?_) ?_
  rotate_left
  focus ((obtain ⟨lg0, cg0, fg0⟩ := B0.out.later hbg); (obtain ⟨lg1, cg1, fg1⟩ := B1.out.later hbg); clear hbg hdg; first | (go_simp; done) | (go_simp; with_reducible rfl))
  simp only [Act.put, List.setIfInBounds_toArray, List.set_cons_zero, List.set_cons_succ]
  refine Grow.val (v := ?_) rfl rfl (fun wg hbg hdg => ?_) ?_
  rotate_left
  focus ((obtain ⟨lg0, cg0, fg0⟩ := B0.out.later hbg); (obtain ⟨lg1, cg1, fg1⟩ := B1.out.later hbg); clear hbg hdg; first | (go_simp; done) | (go_simp; with_reducible rfl))
  simp only [Act.put, List.setIfInBounds_toArray, List.set_cons_zero, List.set_cons_succ]
  refine Grow.call (f := ?_) (args := ?_) rfl (fun wg => ?_) (fun wg hbg hdg => ?_) ?_
  rotate_left 2
  focus (first | (go_simp; done) | (go_simp; refine And.intro ?_ ?_ <;> with_reducible rfl) | (go_simp; with_reducible rfl))
  focus exact Calls.mono (C3.out wg) (fun e w2 ⟨he, hb2⟩ => ⟨_, he, rfl, hb2⟩)
  simp only [Act.put, Known.val, List.setIfInBounds_toArray, List.set_cons_zero, List.set_cons_succ]
  refine Grow.val (v := ?_) rfl rfl (fun wg hbg hdg => ?_) ?_
  rotate_left
  focus ((obtain ⟨lg0, cg0, fg0⟩ := B0.out.later hbg); (obtain ⟨lg1, cg1, fg1⟩ := B1.out.later hbg); clear hbg hdg; first | (go_simp; done) | (go_simp; with_reducible rfl))
  simp only [Act.put, List.setIfInBounds_toArray, List.set_cons_zero, List.set_cons_succ]
  refine Grow.val (v := ?_) rfl rfl (fun wg hbg hdg => ?_) ?_
  rotate_left
  focus ((obtain ⟨lg0, cg0, fg0⟩ := B0.out.later hbg); (obtain ⟨lg1, cg1, fg1⟩ := B1.out.later hbg); clear hbg hdg; first | (go_simp; done) | (go_simp; with_reducible rfl))
  simp only [Act.put, List.setIfInBounds_toArray, List.set_cons_zero, List.set_cons_succ]
  refine Grow.call (f := ?_) (args := ?_) rfl (fun wg => ?_) (fun wg hbg hdg => ?_) ?_
  rotate_left 2
  focus (first | (go_simp; done) | (go_simp; refine And.intro ?_ ?_ <;> with_reducible rfl) | (go_simp; with_reducible rfl))
  focus exact Calls.mono (C4.out wg) (fun e w2 ⟨he, hb2⟩ => ⟨_, he, rfl, hb2⟩)
  simp only [Act.put, Known.val, List.setIfInBounds_toArray, List.set_cons_zero, List.set_cons_succ]
  refine Grow.val (v := ?_) rfl rfl (fun wg hbg hdg => ?_) ?_
  rotate_left
  focus ((obtain ⟨lg0, cg0, fg0⟩ := B0.out.later hbg); (obtain ⟨lg1, cg1, fg1⟩ := B1.out.later hbg); clear hbg hdg; first | (go_simp; done) | (go_simp; with_reducible rfl))
  simp only [Act.put, List.setIfInBounds_toArray, List.set_cons_zero, List.set_cons_succ]
  refine Grow.val (v := ?_) rfl rfl (fun wg hbg hdg => ?_) ?_
  rotate_left
  focus ((obtain ⟨lg0, cg0, fg0⟩ := B0.out.later hbg); (obtain ⟨lg1, cg1, fg1⟩ := B1.out.later hbg); clear hbg hdg; first | (go_simp; done) | (go_simp; with_reducible rfl))
  simp only [Act.put, List.setIfInBounds_toArray, List.set_cons_zero, List.set_cons_succ]
  refine Grow.val (v := ?_) rfl rfl (fun wg hbg hdg => ?_) ?_
  rotate_left
  focus ((obtain ⟨lg0, cg0, fg0⟩ := B0.out.later hbg); (obtain ⟨lg1, cg1, fg1⟩ := B1.out.later hbg); clear hbg hdg; first | (go_simp; done) | (go_simp; with_reducible rfl))
  simp only [Act.put, List.setIfInBounds_toArray, List.set_cons_zero, List.set_cons_succ]
  intro wg hb hf hap
  clear hap
  clear lB0 cB0 fB0 lB1 cB1 fB1
  replace B0 := Lib.hid (B0.out.later hb)
  replace B1 := Lib.hid (B1.out.later hb)
  replace HW := Lib.hid (HW.out.trans (hb.mono HW.out.size))
  clear hb
  obtain ⟨lB0, cB0, fB0⟩ := B0.out
  obtain ⟨lB1, cB1, fB1⟩ := B1.out
  go_wp2
  go_ret
  exact ⟨rfl, HW.out⟩
end Go.Proofs.Ytppnmdplojemcaa
