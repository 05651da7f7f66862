/- What is made of numbers of spans is in what is made of the spans: the walk. -/
import Derived.Test.YtppnmdplojemcaaSpan14
namespace Go.Proofs.Ytppnmdplojemcaa
set_option linter.unusedSimpArgs false
set_option linter.unusedVariables false
open Go.RowKit

theorem lawInT {w : World} {s : Sp} {n : Int} (h : inB s n = true) : Calls Try.prog 23 #[.agg #[.int .i64 s.lo, .int .i64 s.hi], .int .i64 n] w fun e w' => e = .returned (.bool true) ∧ Below w.heap.size w w' := by
  have := lawIn (w := w) s n
  rw [h] at this
  exact this
theorem lawInE {w : World} {s t : Sp} {n : Int} (h : inB s n = inB t n) : Calls Try.prog 23 #[.agg #[.int .i64 s.lo, .int .i64 s.hi], .int .i64 n] w fun e w' => e = .returned (.bool (inB t n)) ∧ Below w.heap.size w w' := by
  have := lawIn (w := w) s n
  rw [h] at this
  exact this
set_option maxRecDepth 100000 in
set_option maxHeartbeats 12800000 in
theorem walkHolds {w : World} (a b : Sp) {n m : Int} (ha : a.ok) (hb : b.ok) (hn : 0 ≤ n ∧ n < 18446744073709551616) (hm : 0 ≤ m ∧ m < 18446744073709551616) :
    Calls Try.prog 7 #[a.val, b.val, .int .u64 n, .int .u64 m] w fun e w' => e = .returned (.bool true) ∧ Below w.heap.size w w' := by
  have HA := Lib.hid ha
  have HB := Lib.hid hb
  have HN := Lib.hid hn
  have HM := Lib.hid hm
  have C1 := Lib.hid (fun w : World => addS_eq a b ha hb ▸ spanAdd (w := w) a b ha hb)
  have C2 := Lib.hid (fun w : World => subS_eq a b ha hb ▸ spanSub (w := w) a b ha hb)
  have C3 := Lib.hid (fun w : World => spanMul (w := w) a b ha hb)
  have C4 := Lib.hid (fun w : World => spanLess (w := w) a b ha hb)
  clear ha hb hn hm
  cases hea : a.none || b.none
  case true =>
    have N1 := Lib.hid (show addQ a b = ⟨0, -1⟩ by unfold addQ; rw [hea]; rfl)
    have N2 := Lib.hid (show subQ a b = ⟨0, -1⟩ by unfold subQ; rw [hea]; rfl)
    have N3 := Lib.hid (show mulS a b = ⟨0, -1⟩ by unfold mulS; rw [hea]; rfl)
    have N4 := Lib.hid (show lessI a b = -1 by unfold lessI; rw [hea]; rfl)
    have N5 := Lib.hid (show meetS [a, b] = ⟨0, -1⟩ by unfold meetS; rw [show [a, b].any Sp.none = (a.none || b.none) by simp, hea]; rfl)
    rw [N1.out] at C1
    rw [N2.out] at C2
    rw [N3.out] at C3
    rw [N4.out] at C4
    unfold Sp.val at C1 C2 C3 C4 ⊢
    have hd : (decide (a.hi < a.lo) || decide (b.hi < b.lo)) = true := hea
    clear hea
    go_enter Try.func7, Try.ntmps7
    go_upto_region 1 with (fail)
    have B4 : Hid (Box ((w.alloc (.cells #[.int .i64 a.lo, .int .i64 a.hi] 23)).alloc (.cells #[.int .i64 b.lo, .int .i64 b.hi] 23)) (w.heap.size) #[.int .i64 a.lo, .int .i64 a.hi]) := Lib.hid (by simpa using ((Box.new w #[.int .i64 a.lo, .int .i64 a.hi] 23).alloc _))
    have B5 : Hid (Box ((w.alloc (.cells #[.int .i64 a.lo, .int .i64 a.hi] 23)).alloc (.cells #[.int .i64 b.lo, .int .i64 b.hi] 23)) (w.heap.size + 1) #[.int .i64 b.lo, .int .i64 b.hi]) := Lib.hid (by simpa using (Box.new (w.alloc (.cells #[.int .i64 a.lo, .int .i64 a.hi] 23)) #[.int .i64 b.lo, .int .i64 b.hi] 23))
    have HW : Hid (Below w.heap.size w ((w.alloc (.cells #[.int .i64 a.lo, .int .i64 a.hi] 23)).alloc (.cells #[.int .i64 b.lo, .int .i64 b.hi] 23))) := Lib.hid (((Below.refl _ _).alloc (Nat.le_refl _) _).alloc (by simp) _)
    generalize ((w.alloc (.cells #[.int .i64 a.lo, .int .i64 a.hi] 23)).alloc (.cells #[.int .i64 b.lo, .int .i64 b.hi] 23)) = wv at *
    obtain ⟨lB4, cB4, fB4⟩ := B4.out
    obtain ⟨lB5, cB5, fB5⟩ := B5.out
    cases q1 : decide (a.hi < a.lo) <;> cases q2 : decide (b.hi < b.lo)
    · rw [q1, q2] at hd; cases hd
    all_goals
      clear hd
      go_wp2_with fail
      refine (C1.out _).mono ?_
      rintro e w1 ⟨rfl, hb1⟩
      clear lB4 cB4 fB4 lB5 cB5 fB5
      replace B4 := Lib.hid (B4.out.later hb1)
      replace B5 := Lib.hid (B5.out.later hb1)
      replace HW := Lib.hid (HW.out.trans (hb1.mono HW.out.size))
      clear hb1
      obtain ⟨lB4, cB4, fB4⟩ := B4.out
      obtain ⟨lB5, cB5, fB5⟩ := B5.out
      clear q1 q2
      go_upto_region 3 with (fail)
      have nB9B4 : w1.heap.size ≠ w.heap.size := fun e => by have := lB4; omega
      have nB4B9 : w.heap.size ≠ w1.heap.size := fun e => nB9B4 e.symm
      have nB9B5 : w1.heap.size ≠ w.heap.size + 1 := fun e => by have := lB5; omega
      have nB5B9 : w.heap.size + 1 ≠ w1.heap.size := fun e => nB9B5 e.symm
      have B4_ : Box (w1.alloc (.cells #[.int .i64 0, .int .i64 (-1)] 23)) (w.heap.size) #[.int .i64 a.lo, .int .i64 a.hi] := by simpa using (B4.out.alloc _)
      have B5_ : Box (w1.alloc (.cells #[.int .i64 0, .int .i64 (-1)] 23)) (w.heap.size + 1) #[.int .i64 b.lo, .int .i64 b.hi] := by simpa using (B5.out.alloc _)
      have B9_ : Box (w1.alloc (.cells #[.int .i64 0, .int .i64 (-1)] 23)) (w1.heap.size) #[.int .i64 0, .int .i64 (-1)] := by simpa using (Box.new w1 #[.int .i64 0, .int .i64 (-1)] 23)
      have HW_ : Below w.heap.size w (w1.alloc (.cells #[.int .i64 0, .int .i64 (-1)] 23)) := (HW.out.alloc (by first | exact Nat.le_refl _ | exact HW.out.size | (simp only [World.size_alloc, World.size_setCell]; have := HW.out.size; omega)) _)
      clear lB4 cB4 fB4 lB5 cB5 fB5
      clear B4 B5 HW
      generalize (w1.alloc (.cells #[.int .i64 0, .int .i64 (-1)] 23)) = wl at *
      have B4 := Lib.hid B4_
      clear B4_
      have B5 := Lib.hid B5_
      clear B5_
      have B9 := Lib.hid B9_
      clear B9_
      have HW := Lib.hid HW_
      clear HW_
      obtain ⟨lB4, cB4, fB4⟩ := B4.out
      obtain ⟨lB5, cB5, fB5⟩ := B5.out
      obtain ⟨lB9, cB9, fB9⟩ := B9.out
      refine wp_region_grow 40 (fun k => match k with | 0 => .const (.bool true) | 14 => .const (.agg #[.int .i64 0, .int .i64 (-1)]) | 21 => .const (.agg #[.int .i64 0, .int .i64 (-1)]) | 28 => .made wl.heap.size (fun b => .slice (some ⟨b, 0, none⟩) 2 2) #[.int .i64 a.lo, .int .i64 a.hi, .int .i64 b.lo, .int .i64 b.hi] | 29 => .const (.agg #[.int .i64 0, .int .i64 (-1)]) | 36 => .const (.int .i64 (-1)) | _ => .plain) (by kernel_rfl) (by kernel_rfl) ?_ (fun ν => ?_)
      · (intro k; (try dsimp only); split <;> first | exact True.intro | (intro u w1 w2 hu hb; exact hu.below hb))
      simp only [List.take_succ_cons, List.take_zero, List.drop_succ_cons, List.drop_zero]
      refine Grow.call (f := ?_) (args := ?_) rfl (fun wg => ?_) (fun wg hbg hdg => ?_) ?_
      rotate_left 2
      focus (first | (go_simp; done) | (go_simp; refine And.intro ?_ ?_ <;> with_reducible rfl) | (go_simp; with_reducible rfl))
      focus exact Calls.mono (awakeSpan) (fun e w2 ⟨he, hb2⟩ => ⟨_, he, rfl, hb2⟩)
      simp only [Act.put, Known.val, List.setIfInBounds_toArray, List.set_cons_zero, List.set_cons_succ]
      refine Grow.val (v := ?_) rfl rfl (fun wg hbg hdg => ?_) ?_
      rotate_left
      focus ((obtain ⟨lg0, cg0, fg0⟩ := B4.out.later hbg); (obtain ⟨lg1, cg1, fg1⟩ := B5.out.later hbg); (obtain ⟨lg2, cg2, fg2⟩ := B9.out.later hbg); clear hbg hdg; first | (go_simp; done) | (go_simp; with_reducible rfl))
      simp only [Act.put, List.setIfInBounds_toArray, List.set_cons_zero, List.set_cons_succ]
      refine Grow.val (v := ?_) rfl rfl (fun wg hbg hdg => ?_) ?_
      rotate_left
      focus ((obtain ⟨lg0, cg0, fg0⟩ := B4.out.later hbg); (obtain ⟨lg1, cg1, fg1⟩ := B5.out.later hbg); (obtain ⟨lg2, cg2, fg2⟩ := B9.out.later hbg); clear hbg hdg; first | (go_simp; done) | (go_simp; with_reducible rfl))
      simp only [Act.put, List.setIfInBounds_toArray, List.set_cons_zero, List.set_cons_succ]
      refine Grow.val (v := ?_) rfl rfl (fun wg hbg hdg => ?_) ?_
      rotate_left
      focus ((obtain ⟨lg0, cg0, fg0⟩ := B4.out.later hbg); (obtain ⟨lg1, cg1, fg1⟩ := B5.out.later hbg); (obtain ⟨lg2, cg2, fg2⟩ := B9.out.later hbg); clear hbg hdg; first | (go_simp; done) | (go_simp; with_reducible rfl))
      simp only [Act.put, List.setIfInBounds_toArray, List.set_cons_zero, List.set_cons_succ]
      refine Grow.val (v := ?_) rfl rfl (fun wg hbg hdg => ?_) ?_
      rotate_left
      focus ((obtain ⟨lg0, cg0, fg0⟩ := B4.out.later hbg); (obtain ⟨lg1, cg1, fg1⟩ := B5.out.later hbg); (obtain ⟨lg2, cg2, fg2⟩ := B9.out.later hbg); clear hbg hdg; first | (go_simp; done) | (go_simp; with_reducible rfl))
      simp only [Act.put, List.setIfInBounds_toArray, List.set_cons_zero, List.set_cons_succ]
      refine Grow.val (v := ?_) rfl rfl (fun wg hbg hdg => ?_) ?_
      rotate_left
      focus ((obtain ⟨lg0, cg0, fg0⟩ := B4.out.later hbg); (obtain ⟨lg1, cg1, fg1⟩ := B5.out.later hbg); (obtain ⟨lg2, cg2, fg2⟩ := B9.out.later hbg); clear hbg hdg; first | (go_simp; done) | (go_simp; with_reducible rfl))
      simp only [Act.put, List.setIfInBounds_toArray, List.set_cons_zero, List.set_cons_succ]
      refine Grow.val (v := ?_) rfl rfl (fun wg hbg hdg => ?_) ?_
      rotate_left
      focus ((obtain ⟨lg0, cg0, fg0⟩ := B4.out.later hbg); (obtain ⟨lg1, cg1, fg1⟩ := B5.out.later hbg); (obtain ⟨lg2, cg2, fg2⟩ := B9.out.later hbg); clear hbg hdg; first | (go_simp; done) | (go_simp; with_reducible rfl))
      simp only [Act.put, List.setIfInBounds_toArray, List.set_cons_zero, List.set_cons_succ]
      refine Grow.val (v := ?_) rfl rfl (fun wg hbg hdg => ?_) ?_
      rotate_left
      focus ((obtain ⟨lg0, cg0, fg0⟩ := B4.out.later hbg); (obtain ⟨lg1, cg1, fg1⟩ := B5.out.later hbg); (obtain ⟨lg2, cg2, fg2⟩ := B9.out.later hbg); clear hbg hdg; first | (go_simp; done) | (go_simp; with_reducible rfl))
      simp only [Act.put, List.setIfInBounds_toArray, List.set_cons_zero, List.set_cons_succ]
      refine Grow.val (v := ?_) rfl rfl (fun wg hbg hdg => ?_) ?_
      rotate_left
      focus ((obtain ⟨lg0, cg0, fg0⟩ := B4.out.later hbg); (obtain ⟨lg1, cg1, fg1⟩ := B5.out.later hbg); (obtain ⟨lg2, cg2, fg2⟩ := B9.out.later hbg); clear hbg hdg; first | (go_simp; done) | (go_simp; with_reducible rfl))
      simp only [Act.put, List.setIfInBounds_toArray, List.set_cons_zero, List.set_cons_succ]
      refine Grow.val (v := ?_) rfl rfl (fun wg hbg hdg => ?_) ?_
      rotate_left
      focus ((obtain ⟨lg0, cg0, fg0⟩ := B4.out.later hbg); (obtain ⟨lg1, cg1, fg1⟩ := B5.out.later hbg); (obtain ⟨lg2, cg2, fg2⟩ := B9.out.later hbg); clear hbg hdg; first | (go_simp; done) | (go_simp; with_reducible rfl))
      simp only [Act.put, List.setIfInBounds_toArray, List.set_cons_zero, List.set_cons_succ]
      refine Grow.val (v := ?_) rfl rfl (fun wg hbg hdg => ?_) ?_
      rotate_left
      focus ((obtain ⟨lg0, cg0, fg0⟩ := B4.out.later hbg); (obtain ⟨lg1, cg1, fg1⟩ := B5.out.later hbg); (obtain ⟨lg2, cg2, fg2⟩ := B9.out.later hbg); clear hbg hdg; first | (go_simp; done) | (go_simp; with_reducible rfl))
      simp only [Act.put, List.setIfInBounds_toArray, List.set_cons_zero, List.set_cons_succ]
      refine Grow.val (v := ?_) rfl rfl (fun wg hbg hdg => ?_) ?_
      rotate_left
      focus ((obtain ⟨lg0, cg0, fg0⟩ := B4.out.later hbg); (obtain ⟨lg1, cg1, fg1⟩ := B5.out.later hbg); (obtain ⟨lg2, cg2, fg2⟩ := B9.out.later hbg); clear hbg hdg; first | (go_simp; done) | (go_simp; with_reducible rfl))
      simp only [Act.put, List.setIfInBounds_toArray, List.set_cons_zero, List.set_cons_succ]
      refine Grow.val (v := ?_) rfl rfl (fun wg hbg hdg => ?_) ?_
      rotate_left
      focus ((obtain ⟨lg0, cg0, fg0⟩ := B4.out.later hbg); (obtain ⟨lg1, cg1, fg1⟩ := B5.out.later hbg); (obtain ⟨lg2, cg2, fg2⟩ := B9.out.later hbg); clear hbg hdg; first | (go_simp; done) | (go_simp; with_reducible rfl))
      simp only [Act.put, List.setIfInBounds_toArray, List.set_cons_zero, List.set_cons_succ]
      refine Grow.val (v := ?_) rfl rfl (fun wg hbg hdg => ?_) ?_
      rotate_left
      focus ((obtain ⟨lg0, cg0, fg0⟩ := B4.out.later hbg); (obtain ⟨lg1, cg1, fg1⟩ := B5.out.later hbg); (obtain ⟨lg2, cg2, fg2⟩ := B9.out.later hbg); clear hbg hdg; first | (go_simp; done) | (go_simp; with_reducible rfl))
      simp only [Act.put, List.setIfInBounds_toArray, List.set_cons_zero, List.set_cons_succ]
      refine Grow.call (f := ?_) (args := ?_) rfl (fun wg => ?_) (fun wg hbg hdg => ?_) ?_
      rotate_left 2
      focus (first | (go_simp; done) | (go_simp; refine And.intro ?_ ?_ <;> with_reducible rfl) | (go_simp; with_reducible rfl))
      focus exact Calls.mono (C3.out wg) (fun e w2 ⟨he, hb2⟩ => ⟨_, he, rfl, hb2⟩)
      simp only [Act.put, Known.val, List.setIfInBounds_toArray, List.set_cons_zero, List.set_cons_succ]
      refine Grow.val (v := ?_) rfl rfl (fun wg hbg hdg => ?_) ?_
      rotate_left
      focus ((obtain ⟨lg0, cg0, fg0⟩ := B4.out.later hbg); (obtain ⟨lg1, cg1, fg1⟩ := B5.out.later hbg); (obtain ⟨lg2, cg2, fg2⟩ := B9.out.later hbg); clear hbg hdg; first | (go_simp; done) | (go_simp; with_reducible rfl))
      simp only [Act.put, List.setIfInBounds_toArray, List.set_cons_zero, List.set_cons_succ]
      refine Grow.val (v := ?_) rfl rfl (fun wg hbg hdg => ?_) ?_
      rotate_left
      focus ((obtain ⟨lg0, cg0, fg0⟩ := B4.out.later hbg); (obtain ⟨lg1, cg1, fg1⟩ := B5.out.later hbg); (obtain ⟨lg2, cg2, fg2⟩ := B9.out.later hbg); clear hbg hdg; first | (go_simp; done) | (go_simp; with_reducible rfl))
      simp only [Act.put, List.setIfInBounds_toArray, List.set_cons_zero, List.set_cons_succ]
      refine Grow.val (v := ?_) rfl rfl (fun wg hbg hdg => ?_) ?_
      rotate_left
      focus ((obtain ⟨lg0, cg0, fg0⟩ := B4.out.later hbg); (obtain ⟨lg1, cg1, fg1⟩ := B5.out.later hbg); (obtain ⟨lg2, cg2, fg2⟩ := B9.out.later hbg); clear hbg hdg; first | (go_simp; done) | (go_simp; with_reducible rfl))
      simp only [Act.put, List.setIfInBounds_toArray, List.set_cons_zero, List.set_cons_succ]
      refine Grow.val (v := ?_) rfl rfl (fun wg hbg hdg => ?_) ?_
      rotate_left
      focus ((obtain ⟨lg0, cg0, fg0⟩ := B4.out.later hbg); (obtain ⟨lg1, cg1, fg1⟩ := B5.out.later hbg); (obtain ⟨lg2, cg2, fg2⟩ := B9.out.later hbg); clear hbg hdg; first | (go_simp; done) | (go_simp; with_reducible rfl))
      simp only [Act.put, List.setIfInBounds_toArray, List.set_cons_zero, List.set_cons_succ]
      refine Grow.val (v := ?_) rfl rfl (fun wg hbg hdg => ?_) ?_
      rotate_left
      focus ((obtain ⟨lg0, cg0, fg0⟩ := B4.out.later hbg); (obtain ⟨lg1, cg1, fg1⟩ := B5.out.later hbg); (obtain ⟨lg2, cg2, fg2⟩ := B9.out.later hbg); clear hbg hdg; first | (go_simp; done) | (go_simp; with_reducible rfl))
      simp only [Act.put, List.setIfInBounds_toArray, List.set_cons_zero, List.set_cons_succ]
      refine Grow.val (v := ?_) rfl rfl (fun wg hbg hdg => ?_) ?_
      rotate_left
      focus ((obtain ⟨lg0, cg0, fg0⟩ := B4.out.later hbg); (obtain ⟨lg1, cg1, fg1⟩ := B5.out.later hbg); (obtain ⟨lg2, cg2, fg2⟩ := B9.out.later hbg); clear hbg hdg; first | (go_simp; done) | (go_simp; with_reducible rfl))
      simp only [Act.put, List.setIfInBounds_toArray, List.set_cons_zero, List.set_cons_succ]
      refine Grow.call (f := ?_) (args := ?_) rfl (fun wg => ?_) (fun wg hbg hdg => ?_) ?_
      rotate_left 2
      focus (first | (go_simp; done) | (go_simp; refine And.intro ?_ ?_ <;> with_reducible rfl) | (go_simp; with_reducible rfl))
      focus exact Calls.mono (C2.out wg) (fun e w2 ⟨he, hb2⟩ => ⟨_, he, rfl, hb2⟩)
      simp only [Act.put, Known.val, List.setIfInBounds_toArray, List.set_cons_zero, List.set_cons_succ]
      refine Grow.val (v := ?_) rfl rfl (fun wg hbg hdg => ?_) ?_
      rotate_left
      focus ((obtain ⟨lg0, cg0, fg0⟩ := B4.out.later hbg); (obtain ⟨lg1, cg1, fg1⟩ := B5.out.later hbg); (obtain ⟨lg2, cg2, fg2⟩ := B9.out.later hbg); clear hbg hdg; first | (go_simp; done) | (go_simp; with_reducible rfl))
      simp only [Act.put, List.setIfInBounds_toArray, List.set_cons_zero, List.set_cons_succ]
      refine Grow.val (v := ?_) rfl rfl (fun wg hbg hdg => ?_) ?_
      rotate_left
      focus ((obtain ⟨lg0, cg0, fg0⟩ := B4.out.later hbg); (obtain ⟨lg1, cg1, fg1⟩ := B5.out.later hbg); (obtain ⟨lg2, cg2, fg2⟩ := B9.out.later hbg); clear hbg hdg; first | (go_simp; done) | (go_simp; with_reducible rfl))
      simp only [Act.put, List.setIfInBounds_toArray, List.set_cons_zero, List.set_cons_succ]
      refine Grow.val (v := ?_) rfl rfl (fun wg hbg hdg => ?_) ?_
      rotate_left
      focus ((obtain ⟨lg0, cg0, fg0⟩ := B4.out.later hbg); (obtain ⟨lg1, cg1, fg1⟩ := B5.out.later hbg); (obtain ⟨lg2, cg2, fg2⟩ := B9.out.later hbg); clear hbg hdg; first | (go_simp; done) | (go_simp; with_reducible rfl))
      simp only [Act.put, List.setIfInBounds_toArray, List.set_cons_zero, List.set_cons_succ]
      refine Grow.val (v := ?_) rfl rfl (fun wg hbg hdg => ?_) ?_
      rotate_left
      focus ((obtain ⟨lg0, cg0, fg0⟩ := B4.out.later hbg); (obtain ⟨lg1, cg1, fg1⟩ := B5.out.later hbg); (obtain ⟨lg2, cg2, fg2⟩ := B9.out.later hbg); clear hbg hdg; first | (go_simp; done) | (go_simp; with_reducible rfl))
      simp only [Act.put, List.setIfInBounds_toArray, List.set_cons_zero, List.set_cons_succ]
      refine Grow.val (v := ?_) rfl rfl (fun wg hbg hdg => ?_) ?_
      rotate_left
      focus ((obtain ⟨lg0, cg0, fg0⟩ := B4.out.later hbg); (obtain ⟨lg1, cg1, fg1⟩ := B5.out.later hbg); (obtain ⟨lg2, cg2, fg2⟩ := B9.out.later hbg); clear hbg hdg; first | (go_simp; done) | (go_simp; with_reducible rfl))
      simp only [Act.put, List.setIfInBounds_toArray, List.set_cons_zero, List.set_cons_succ]
      refine Grow.val (v := ?_) rfl rfl (fun wg hbg hdg => ?_) ?_
      rotate_left
      focus ((obtain ⟨lg0, cg0, fg0⟩ := B4.out.later hbg); (obtain ⟨lg1, cg1, fg1⟩ := B5.out.later hbg); (obtain ⟨lg2, cg2, fg2⟩ := B9.out.later hbg); clear hbg hdg; first | (go_simp; done) | (go_simp; with_reducible rfl))
      simp only [Act.put, List.setIfInBounds_toArray, List.set_cons_zero, List.set_cons_succ]
      refine Grow.made (T := ?_) rfl rfl (fun wg hbg hdg => ?_) ?_
      rotate_left
      focus ((obtain ⟨lg0, cg0, fg0⟩ := B4.out.later hbg); (obtain ⟨lg1, cg1, fg1⟩ := B5.out.later hbg); (obtain ⟨lg2, cg2, fg2⟩ := B9.out.later hbg); clear hbg hdg; first | (go_simp; done) | (go_simp; with_reducible rfl))
      simp only [Act.put, Known.val, List.setIfInBounds_toArray, List.set_cons_zero, List.set_cons_succ]
      refine Grow.call (f := ?_) (args := ?_) rfl (fun wg => ?_) (fun wg hbg hdg => ?_) ?_
      rotate_left 2
      focus (first | (go_simp; done) | (go_simp; refine And.intro ?_ ?_ <;> with_reducible rfl) | (go_simp; with_reducible rfl))
      focus ((obtain ⟨bq, hq, _, hX⟩ := hdg 28 (by kernel_rfl)); rw [hq]; exact Calls.mono (N5.out ▸ spanMeet (spans_box2 hX HA.out HB.out)) (fun e w2 ⟨he, hb2⟩ => ⟨_, he, rfl, hb2⟩))
      simp only [Act.put, Known.val, List.setIfInBounds_toArray, List.set_cons_zero, List.set_cons_succ]
      refine Grow.val (v := ?_) rfl rfl (fun wg hbg hdg => ?_) ?_
      rotate_left
      focus ((obtain ⟨lg0, cg0, fg0⟩ := B4.out.later hbg); (obtain ⟨lg1, cg1, fg1⟩ := B5.out.later hbg); (obtain ⟨lg2, cg2, fg2⟩ := B9.out.later hbg); clear hbg hdg; first | (go_simp; done) | (go_simp; with_reducible rfl))
      simp only [Act.put, List.setIfInBounds_toArray, List.set_cons_zero, List.set_cons_succ]
      refine Grow.val (v := ?_) rfl rfl (fun wg hbg hdg => ?_) ?_
      rotate_left
      focus ((obtain ⟨lg0, cg0, fg0⟩ := B4.out.later hbg); (obtain ⟨lg1, cg1, fg1⟩ := B5.out.later hbg); (obtain ⟨lg2, cg2, fg2⟩ := B9.out.later hbg); clear hbg hdg; first | (go_simp; done) | (go_simp; with_reducible rfl))
      simp only [Act.put, List.setIfInBounds_toArray, List.set_cons_zero, List.set_cons_succ]
      refine Grow.val (v := ?_) rfl rfl (fun wg hbg hdg => ?_) ?_
      rotate_left
      focus ((obtain ⟨lg0, cg0, fg0⟩ := B4.out.later hbg); (obtain ⟨lg1, cg1, fg1⟩ := B5.out.later hbg); (obtain ⟨lg2, cg2, fg2⟩ := B9.out.later hbg); clear hbg hdg; first | (go_simp; done) | (go_simp; with_reducible rfl))
      simp only [Act.put, List.setIfInBounds_toArray, List.set_cons_zero, List.set_cons_succ]
      refine Grow.val (v := ?_) rfl rfl (fun wg hbg hdg => ?_) ?_
      rotate_left
      focus ((obtain ⟨lg0, cg0, fg0⟩ := B4.out.later hbg); (obtain ⟨lg1, cg1, fg1⟩ := B5.out.later hbg); (obtain ⟨lg2, cg2, fg2⟩ := B9.out.later hbg); clear hbg hdg; first | (go_simp; done) | (go_simp; with_reducible rfl))
      simp only [Act.put, List.setIfInBounds_toArray, List.set_cons_zero, List.set_cons_succ]
      refine Grow.val (v := ?_) rfl rfl (fun wg hbg hdg => ?_) ?_
      rotate_left
      focus ((obtain ⟨lg0, cg0, fg0⟩ := B4.out.later hbg); (obtain ⟨lg1, cg1, fg1⟩ := B5.out.later hbg); (obtain ⟨lg2, cg2, fg2⟩ := B9.out.later hbg); clear hbg hdg; first | (go_simp; done) | (go_simp; with_reducible rfl))
      simp only [Act.put, List.setIfInBounds_toArray, List.set_cons_zero, List.set_cons_succ]
      refine Grow.val (v := ?_) rfl rfl (fun wg hbg hdg => ?_) ?_
      rotate_left
      focus ((obtain ⟨lg0, cg0, fg0⟩ := B4.out.later hbg); (obtain ⟨lg1, cg1, fg1⟩ := B5.out.later hbg); (obtain ⟨lg2, cg2, fg2⟩ := B9.out.later hbg); clear hbg hdg; first | (go_simp; done) | (go_simp; with_reducible rfl))
      simp only [Act.put, List.setIfInBounds_toArray, List.set_cons_zero, List.set_cons_succ]
      refine Grow.call (f := ?_) (args := ?_) rfl (fun wg => ?_) (fun wg hbg hdg => ?_) ?_
      rotate_left 2
      focus (first | (go_simp; done) | (go_simp; refine And.intro ?_ ?_ <;> with_reducible rfl) | (go_simp; with_reducible rfl))
      focus exact Calls.mono (C4.out wg) (fun e w2 ⟨he, hb2⟩ => ⟨_, he, rfl, hb2⟩)
      simp only [Act.put, Known.val, List.setIfInBounds_toArray, List.set_cons_zero, List.set_cons_succ]
      refine Grow.val (v := ?_) rfl rfl (fun wg hbg hdg => ?_) ?_
      rotate_left
      focus ((obtain ⟨lg0, cg0, fg0⟩ := B4.out.later hbg); (obtain ⟨lg1, cg1, fg1⟩ := B5.out.later hbg); (obtain ⟨lg2, cg2, fg2⟩ := B9.out.later hbg); clear hbg hdg; first | (go_simp; done) | (go_simp; with_reducible rfl))
      simp only [Act.put, List.setIfInBounds_toArray, List.set_cons_zero, List.set_cons_succ]
      refine Grow.val (v := ?_) rfl rfl (fun wg hbg hdg => ?_) ?_
      rotate_left
      focus ((obtain ⟨lg0, cg0, fg0⟩ := B4.out.later hbg); (obtain ⟨lg1, cg1, fg1⟩ := B5.out.later hbg); (obtain ⟨lg2, cg2, fg2⟩ := B9.out.later hbg); clear hbg hdg; first | (go_simp; done) | (go_simp; with_reducible rfl))
      simp only [Act.put, List.setIfInBounds_toArray, List.set_cons_zero, List.set_cons_succ]
      refine Grow.val (v := ?_) rfl rfl (fun wg hbg hdg => ?_) ?_
      rotate_left
      focus ((obtain ⟨lg0, cg0, fg0⟩ := B4.out.later hbg); (obtain ⟨lg1, cg1, fg1⟩ := B5.out.later hbg); (obtain ⟨lg2, cg2, fg2⟩ := B9.out.later hbg); clear hbg hdg; first | (go_simp; done) | (go_simp; with_reducible rfl))
      simp only [Act.put, List.setIfInBounds_toArray, List.set_cons_zero, List.set_cons_succ]
      intro wg hb hf hap
      obtain ⟨bB28, hνB28, hBB28, hXB28⟩ := hf 28 (by omega)
      have nB28B4 : bB28 ≠ w.heap.size := fun e => by have := lB4; omega
      have nB4B28 : w.heap.size ≠ bB28 := fun e => nB28B4 e.symm
      have nB28B5 : bB28 ≠ w.heap.size + 1 := fun e => by have := lB5; omega
      have nB5B28 : w.heap.size + 1 ≠ bB28 := fun e => nB28B5 e.symm
      have nB28B9 : bB28 ≠ w1.heap.size := fun e => by have := lB9; omega
      have nB9B28 : w1.heap.size ≠ bB28 := fun e => nB28B9 e.symm
      simp only [hνB28]
      clear hνB28
      clear hap
      have gB28 := Nat.le_trans HW.out.size hBB28
      clear hBB28
      clear lB4 cB4 fB4 lB5 cB5 fB5 lB9 cB9 fB9
      replace B4 := Lib.hid (B4.out.later hb)
      replace B5 := Lib.hid (B5.out.later hb)
      replace B9 := Lib.hid (B9.out.later hb)
      replace HW := Lib.hid (HW.out.trans (hb.mono HW.out.size))
      clear hb
      have B28 := Lib.hid hXB28
      clear hXB28
      obtain ⟨lB4, cB4, fB4⟩ := B4.out
      obtain ⟨lB5, cB5, fB5⟩ := B5.out
      obtain ⟨lB9, cB9, fB9⟩ := B9.out
      obtain ⟨lB28, cB28, fB28⟩ := B28.out
      clear hf
      go_wp2
      go_ret
      exact ⟨rfl, HW.out⟩
  case false =>
    have K1 : a.none = false := by revert hea; cases a.none <;> simp
    have K2 : b.none = false := by revert hea; cases b.none <;> simp
    have HX := Lib.hid (numI_in K1 HA.out n)
    have HY := Lib.hid (numI_in K2 HB.out m)
    have G1 := Lib.hid (fun w : World => lawNumber (w := w) a n K1 HA.out HN.out.1 HN.out.2)
    have G2 := Lib.hid (fun w : World => lawNumber (w := w) b m K2 HB.out HM.out.1 HM.out.2)
    have I1 := Lib.hid (add_in K1 K2 HX.out HY.out HA.out HB.out)
    have I2 := Lib.hid (sub_in K1 K2 HX.out HY.out HA.out HB.out)
    have I3 := Lib.hid (mul_in K1 K2 HX.out HY.out)
    have I4 := Lib.hid (join_in (l := [a, b]) (by simp) HX.out)
    have I5 := Lib.hid (join_in (l := [b, a]) (by simp) HY.out)
    have I6 := Lib.hid (meetS_two a b K1 K2 HA.out HB.out HX.out)
    have I7 := Lib.hid (less_in K1 K2 HX.out HY.out)
    have q1 : decide (a.hi < a.lo) = false := K1
    have q2 : decide (b.hi < b.lo) = false := K2
    clear hea K1 K2
    generalize numI a n = x at *
    generalize numI b m = y at *
    unfold Sp.val at C1 C2 C3 C4 G1 G2 ⊢
    go_enter Try.func7, Try.ntmps7
    go_upto_region 1 with (fail)
    have B4 : Hid (Box ((w.alloc (.cells #[.int .i64 a.lo, .int .i64 a.hi] 23)).alloc (.cells #[.int .i64 b.lo, .int .i64 b.hi] 23)) (w.heap.size) #[.int .i64 a.lo, .int .i64 a.hi]) := Lib.hid (by simpa using ((Box.new w #[.int .i64 a.lo, .int .i64 a.hi] 23).alloc _))
    have B5 : Hid (Box ((w.alloc (.cells #[.int .i64 a.lo, .int .i64 a.hi] 23)).alloc (.cells #[.int .i64 b.lo, .int .i64 b.hi] 23)) (w.heap.size + 1) #[.int .i64 b.lo, .int .i64 b.hi]) := Lib.hid (by simpa using (Box.new (w.alloc (.cells #[.int .i64 a.lo, .int .i64 a.hi] 23)) #[.int .i64 b.lo, .int .i64 b.hi] 23))
    have HW : Hid (Below w.heap.size w ((w.alloc (.cells #[.int .i64 a.lo, .int .i64 a.hi] 23)).alloc (.cells #[.int .i64 b.lo, .int .i64 b.hi] 23))) := Lib.hid (((Below.refl _ _).alloc (Nat.le_refl _) _).alloc (by simp) _)
    generalize ((w.alloc (.cells #[.int .i64 a.lo, .int .i64 a.hi] 23)).alloc (.cells #[.int .i64 b.lo, .int .i64 b.hi] 23)) = wv at *
    obtain ⟨lB4, cB4, fB4⟩ := B4.out
    obtain ⟨lB5, cB5, fB5⟩ := B5.out
    go_upto_region 4 with (fail)
    clear q1 q2
    refine wp_region_grow 8 (fun k => match k with | 2 => .const (.int .i64 x) | 5 => .const (.int .i64 y) | _ => .plain) (by kernel_rfl) (by kernel_rfl) ?_ (fun ν => ?_)
    · (intro k; (try dsimp only); split <;> first | exact True.intro | (intro u w1 w2 hu hb; exact hu.below hb))
    simp only [List.take_succ_cons, List.take_zero, List.drop_succ_cons, List.drop_zero]
    refine Grow.val (v := ?_) rfl rfl (fun wg hbg hdg => ?_) ?_
    rotate_left
    focus ((obtain ⟨lg0, cg0, fg0⟩ := B4.out.later hbg); (obtain ⟨lg1, cg1, fg1⟩ := B5.out.later hbg); clear hbg hdg; first | (go_simp; done) | (go_simp; with_reducible rfl))
    simp only [Act.put, List.setIfInBounds_toArray, List.set_cons_zero, List.set_cons_succ]
    refine Grow.val (v := ?_) rfl rfl (fun wg hbg hdg => ?_) ?_
    rotate_left
    focus ((obtain ⟨lg0, cg0, fg0⟩ := B4.out.later hbg); (obtain ⟨lg1, cg1, fg1⟩ := B5.out.later hbg); clear hbg hdg; first | (go_simp; done) | (go_simp; with_reducible rfl))
    simp only [Act.put, List.setIfInBounds_toArray, List.set_cons_zero, List.set_cons_succ]
    refine Grow.call (f := ?_) (args := ?_) rfl (fun wg => ?_) (fun wg hbg hdg => ?_) ?_
    rotate_left 2
    focus (first | (go_simp; done) | (go_simp; refine And.intro ?_ ?_ <;> with_reducible rfl) | (go_simp; with_reducible rfl))
    focus exact Calls.mono (G1.out wg) (fun e w2 ⟨he, hb2⟩ => ⟨_, he, rfl, hb2⟩)
    simp only [Act.put, Known.val, List.setIfInBounds_toArray, List.set_cons_zero, List.set_cons_succ]
    refine Grow.val (v := ?_) rfl rfl (fun wg hbg hdg => ?_) ?_
    rotate_left
    focus ((obtain ⟨lg0, cg0, fg0⟩ := B4.out.later hbg); (obtain ⟨lg1, cg1, fg1⟩ := B5.out.later hbg); clear hbg hdg; first | (go_simp; done) | (go_simp; with_reducible rfl))
    simp only [Act.put, List.setIfInBounds_toArray, List.set_cons_zero, List.set_cons_succ]
    refine Grow.val (v := ?_) rfl rfl (fun wg hbg hdg => ?_) ?_
    rotate_left
    focus ((obtain ⟨lg0, cg0, fg0⟩ := B4.out.later hbg); (obtain ⟨lg1, cg1, fg1⟩ := B5.out.later hbg); clear hbg hdg; first | (go_simp; done) | (go_simp; with_reducible rfl))
    simp only [Act.put, List.setIfInBounds_toArray, List.set_cons_zero, List.set_cons_succ]
    refine Grow.call (f := ?_) (args := ?_) rfl (fun wg => ?_) (fun wg hbg hdg => ?_) ?_
    rotate_left 2
    focus (first | (go_simp; done) | (go_simp; refine And.intro ?_ ?_ <;> with_reducible rfl) | (go_simp; with_reducible rfl))
    focus exact Calls.mono (G2.out wg) (fun e w2 ⟨he, hb2⟩ => ⟨_, he, rfl, hb2⟩)
    simp only [Act.put, Known.val, List.setIfInBounds_toArray, List.set_cons_zero, List.set_cons_succ]
    refine Grow.val (v := ?_) rfl rfl (fun wg hbg hdg => ?_) ?_
    rotate_left
    focus ((obtain ⟨lg0, cg0, fg0⟩ := B4.out.later hbg); (obtain ⟨lg1, cg1, fg1⟩ := B5.out.later hbg); clear hbg hdg; first | (go_simp; done) | (go_simp; with_reducible rfl))
    simp only [Act.put, List.setIfInBounds_toArray, List.set_cons_zero, List.set_cons_succ]
    refine Grow.val (v := ?_) rfl rfl (fun wg hbg hdg => ?_) ?_
    rotate_left
    focus ((obtain ⟨lg0, cg0, fg0⟩ := B4.out.later hbg); (obtain ⟨lg1, cg1, fg1⟩ := B5.out.later hbg); clear hbg hdg; first | (go_simp; done) | (go_simp; with_reducible rfl))
    simp only [Act.put, List.setIfInBounds_toArray, List.set_cons_zero, List.set_cons_succ]
    intro wg hb hf hap
    clear hap
    clear lB4 cB4 fB4 lB5 cB5 fB5
    replace B4 := Lib.hid (B4.out.later hb)
    replace B5 := Lib.hid (B5.out.later hb)
    replace HW := Lib.hid (HW.out.trans (hb.mono HW.out.size))
    clear hb
    obtain ⟨lB4, cB4, fB4⟩ := B4.out
    obtain ⟨lB5, cB5, fB5⟩ := B5.out
    clear hf
    go_upto_region 5 with (fail)
    refine wp_region_text 50 (fun k => match k with | 0 => .const (.bool true) | 5 => .const (.agg #[.int .i64 (addQ a b).lo, .int .i64 (addQ a b).hi]) | 9 => .const (.bool true) | 15 => .const (.agg #[.int .i64 (subQ a b).lo, .int .i64 (subQ a b).hi]) | 19 => .const (.bool true) | 25 => .const (.agg #[.int .i64 (mulS a b).lo, .int .i64 (mulS a b).hi]) | 29 => .const (.bool true) | 35 => .made wg.heap.size (fun b => .slice (some ⟨b, 0, none⟩) 2 2) #[.int .i64 a.lo, .int .i64 a.hi, .int .i64 b.lo, .int .i64 b.hi] | 36 => .const (.agg #[.int .i64 (joinL [a, b]).lo, .int .i64 (joinL [a, b]).hi]) | 38 => .const (.bool true) | 44 => .made wg.heap.size (fun b => .slice (some ⟨b, 0, none⟩) 2 2) #[.int .i64 b.lo, .int .i64 b.hi, .int .i64 a.lo, .int .i64 a.hi] | 45 => .const (.agg #[.int .i64 (joinL [b, a]).lo, .int .i64 (joinL [b, a]).hi]) | 47 => .const (.bool true) | _ => .plain) (by kernel_rfl) (by simp) ?_ (fun ν => ?_)
    · (intro k; (try dsimp only); split <;> first | exact True.intro | (intro u w1 w2 hu hb; exact hu.below hb))
    simp only [List.take_succ_cons, List.take_zero, List.drop_succ_cons, List.drop_zero]
    refine Grow.call (f := ?_) (args := ?_) rfl (fun wg => ?_) (fun wg hbg hdg => ?_) ?_
    rotate_left 2
    focus (first | (go_simp; done) | (go_simp; refine And.intro ?_ ?_ <;> with_reducible rfl) | (go_simp; with_reducible rfl))
    focus exact Calls.mono (awakeSpan) (fun e w2 ⟨he, hb2⟩ => ⟨_, he, rfl, hb2⟩)
    simp only [Act.put, Known.val, List.setIfInBounds_toArray, List.set_cons_zero, List.set_cons_succ]
    refine Grow.val (v := ?_) rfl rfl (fun wg hbg hdg => ?_) ?_
    rotate_left
    focus ((obtain ⟨lg0, cg0, fg0⟩ := B4.out.later hbg); (obtain ⟨lg1, cg1, fg1⟩ := B5.out.later hbg); clear hbg hdg; first | (go_simp; done) | (go_simp; with_reducible rfl))
    simp only [Act.put, List.setIfInBounds_toArray, List.set_cons_zero, List.set_cons_succ]
    refine Grow.val (v := ?_) rfl rfl (fun wg hbg hdg => ?_) ?_
    rotate_left
    focus ((obtain ⟨lg0, cg0, fg0⟩ := B4.out.later hbg); (obtain ⟨lg1, cg1, fg1⟩ := B5.out.later hbg); clear hbg hdg; first | (go_simp; done) | (go_simp; with_reducible rfl))
    simp only [Act.put, List.setIfInBounds_toArray, List.set_cons_zero, List.set_cons_succ]
    refine Grow.val (v := ?_) rfl rfl (fun wg hbg hdg => ?_) ?_
    rotate_left
    focus ((obtain ⟨lg0, cg0, fg0⟩ := B4.out.later hbg); (obtain ⟨lg1, cg1, fg1⟩ := B5.out.later hbg); clear hbg hdg; first | (go_simp; done) | (go_simp; with_reducible rfl))
    simp only [Act.put, List.setIfInBounds_toArray, List.set_cons_zero, List.set_cons_succ]
    refine Grow.val (v := ?_) rfl rfl (fun wg hbg hdg => ?_) ?_
    rotate_left
    focus ((obtain ⟨lg0, cg0, fg0⟩ := B4.out.later hbg); (obtain ⟨lg1, cg1, fg1⟩ := B5.out.later hbg); clear hbg hdg; first | (go_simp; done) | (go_simp; with_reducible rfl))
    simp only [Act.put, List.setIfInBounds_toArray, List.set_cons_zero, List.set_cons_succ]
    refine Grow.call (f := ?_) (args := ?_) rfl (fun wg => ?_) (fun wg hbg hdg => ?_) ?_
    rotate_left 2
    focus (first | (go_simp; done) | (go_simp; refine And.intro ?_ ?_ <;> with_reducible rfl) | (go_simp; with_reducible rfl))
    focus exact Calls.mono (C1.out wg) (fun e w2 ⟨he, hb2⟩ => ⟨_, he, rfl, hb2⟩)
    simp only [Act.put, Known.val, List.setIfInBounds_toArray, List.set_cons_zero, List.set_cons_succ]
    refine Grow.val (v := ?_) rfl rfl (fun wg hbg hdg => ?_) ?_
    rotate_left
    focus ((obtain ⟨lg0, cg0, fg0⟩ := B4.out.later hbg); (obtain ⟨lg1, cg1, fg1⟩ := B5.out.later hbg); clear hbg hdg; first | (go_simp; done) | (go_simp; with_reducible rfl))
    simp only [Act.put, List.setIfInBounds_toArray, List.set_cons_zero, List.set_cons_succ]
    refine Grow.val (v := ?_) rfl rfl (fun wg hbg hdg => ?_) ?_
    rotate_left
    focus ((obtain ⟨lg0, cg0, fg0⟩ := B4.out.later hbg); (obtain ⟨lg1, cg1, fg1⟩ := B5.out.later hbg); clear hbg hdg; first | (go_simp; done) | (go_simp; with_reducible rfl))
    simp only [Act.put, List.setIfInBounds_toArray, List.set_cons_zero, List.set_cons_succ]
    refine Grow.val (v := ?_) rfl rfl (fun wg hbg hdg => ?_) ?_
    rotate_left
    focus ((obtain ⟨lg0, cg0, fg0⟩ := B4.out.later hbg); (obtain ⟨lg1, cg1, fg1⟩ := B5.out.later hbg); clear hbg hdg; first | (go_simp; done) | (go_simp; with_reducible rfl))
    simp only [Act.put, List.setIfInBounds_toArray, List.set_cons_zero, List.set_cons_succ]
    refine Grow.call (f := ?_) (args := ?_) rfl (fun wg => ?_) (fun wg hbg hdg => ?_) ?_
    rotate_left 2
    focus (first | (go_simp; done) | (go_simp; refine And.intro ?_ ?_ <;> with_reducible rfl) | (go_simp; with_reducible rfl))
    focus exact Calls.mono (lawInT (i64_wrap (x + y) ▸ I1.out)) (fun e w2 ⟨he, hb2⟩ => ⟨_, he, rfl, hb2⟩)
    simp only [Act.put, Known.val, List.setIfInBounds_toArray, List.set_cons_zero, List.set_cons_succ]
    refine Grow.val (v := ?_) rfl rfl (fun wg hbg hdg => ?_) ?_
    rotate_left
    focus ((obtain ⟨lg0, cg0, fg0⟩ := B4.out.later hbg); (obtain ⟨lg1, cg1, fg1⟩ := B5.out.later hbg); clear hbg hdg; first | (go_simp; done) | (go_simp; with_reducible rfl))
    simp only [Act.put, List.setIfInBounds_toArray, List.set_cons_zero, List.set_cons_succ]
    refine Grow.val (v := ?_) rfl rfl (fun wg hbg hdg => ?_) ?_
    rotate_left
    focus ((obtain ⟨lg0, cg0, fg0⟩ := B4.out.later hbg); (obtain ⟨lg1, cg1, fg1⟩ := B5.out.later hbg); clear hbg hdg; first | (go_simp; done) | (go_simp; with_reducible rfl))
    simp only [Act.put, List.setIfInBounds_toArray, List.set_cons_zero, List.set_cons_succ]
    refine Grow.val (v := ?_) rfl rfl (fun wg hbg hdg => ?_) ?_
    rotate_left
    focus ((obtain ⟨lg0, cg0, fg0⟩ := B4.out.later hbg); (obtain ⟨lg1, cg1, fg1⟩ := B5.out.later hbg); clear hbg hdg; first | (go_simp; done) | (go_simp; with_reducible rfl))
    simp only [Act.put, List.setIfInBounds_toArray, List.set_cons_zero, List.set_cons_succ]
    refine Grow.val (v := ?_) rfl rfl (fun wg hbg hdg => ?_) ?_
    rotate_left
    focus ((obtain ⟨lg0, cg0, fg0⟩ := B4.out.later hbg); (obtain ⟨lg1, cg1, fg1⟩ := B5.out.later hbg); clear hbg hdg; first | (go_simp; done) | (go_simp; with_reducible rfl))
    simp only [Act.put, List.setIfInBounds_toArray, List.set_cons_zero, List.set_cons_succ]
    refine Grow.val (v := ?_) rfl rfl (fun wg hbg hdg => ?_) ?_
    rotate_left
    focus ((obtain ⟨lg0, cg0, fg0⟩ := B4.out.later hbg); (obtain ⟨lg1, cg1, fg1⟩ := B5.out.later hbg); clear hbg hdg; first | (go_simp; done) | (go_simp; with_reducible rfl))
    simp only [Act.put, List.setIfInBounds_toArray, List.set_cons_zero, List.set_cons_succ]
    refine Grow.call (f := ?_) (args := ?_) rfl (fun wg => ?_) (fun wg hbg hdg => ?_) ?_
    rotate_left 2
    focus (first | (go_simp; done) | (go_simp; refine And.intro ?_ ?_ <;> with_reducible rfl) | (go_simp; with_reducible rfl))
    focus exact Calls.mono (C2.out wg) (fun e w2 ⟨he, hb2⟩ => ⟨_, he, rfl, hb2⟩)
    simp only [Act.put, Known.val, List.setIfInBounds_toArray, List.set_cons_zero, List.set_cons_succ]
    refine Grow.val (v := ?_) rfl rfl (fun wg hbg hdg => ?_) ?_
    rotate_left
    focus ((obtain ⟨lg0, cg0, fg0⟩ := B4.out.later hbg); (obtain ⟨lg1, cg1, fg1⟩ := B5.out.later hbg); clear hbg hdg; first | (go_simp; done) | (go_simp; with_reducible rfl))
    simp only [Act.put, List.setIfInBounds_toArray, List.set_cons_zero, List.set_cons_succ]
    refine Grow.val (v := ?_) rfl rfl (fun wg hbg hdg => ?_) ?_
    rotate_left
    focus ((obtain ⟨lg0, cg0, fg0⟩ := B4.out.later hbg); (obtain ⟨lg1, cg1, fg1⟩ := B5.out.later hbg); clear hbg hdg; first | (go_simp; done) | (go_simp; with_reducible rfl))
    simp only [Act.put, List.setIfInBounds_toArray, List.set_cons_zero, List.set_cons_succ]
    refine Grow.val (v := ?_) rfl rfl (fun wg hbg hdg => ?_) ?_
    rotate_left
    focus ((obtain ⟨lg0, cg0, fg0⟩ := B4.out.later hbg); (obtain ⟨lg1, cg1, fg1⟩ := B5.out.later hbg); clear hbg hdg; first | (go_simp; done) | (go_simp; with_reducible rfl))
    simp only [Act.put, List.setIfInBounds_toArray, List.set_cons_zero, List.set_cons_succ]
    refine Grow.call (f := ?_) (args := ?_) rfl (fun wg => ?_) (fun wg hbg hdg => ?_) ?_
    rotate_left 2
    focus (first | (go_simp; done) | (go_simp; refine And.intro ?_ ?_ <;> with_reducible rfl) | (go_simp; with_reducible rfl))
    focus exact Calls.mono (lawInT (i64_wrap (x - y) ▸ I2.out)) (fun e w2 ⟨he, hb2⟩ => ⟨_, he, rfl, hb2⟩)
    simp only [Act.put, Known.val, List.setIfInBounds_toArray, List.set_cons_zero, List.set_cons_succ]
    refine Grow.val (v := ?_) rfl rfl (fun wg hbg hdg => ?_) ?_
    rotate_left
    focus ((obtain ⟨lg0, cg0, fg0⟩ := B4.out.later hbg); (obtain ⟨lg1, cg1, fg1⟩ := B5.out.later hbg); clear hbg hdg; first | (go_simp; done) | (go_simp; with_reducible rfl))
    simp only [Act.put, List.setIfInBounds_toArray, List.set_cons_zero, List.set_cons_succ]
    refine Grow.val (v := ?_) rfl rfl (fun wg hbg hdg => ?_) ?_
    rotate_left
    focus ((obtain ⟨lg0, cg0, fg0⟩ := B4.out.later hbg); (obtain ⟨lg1, cg1, fg1⟩ := B5.out.later hbg); clear hbg hdg; first | (go_simp; done) | (go_simp; with_reducible rfl))
    simp only [Act.put, List.setIfInBounds_toArray, List.set_cons_zero, List.set_cons_succ]
    refine Grow.val (v := ?_) rfl rfl (fun wg hbg hdg => ?_) ?_
    rotate_left
    focus ((obtain ⟨lg0, cg0, fg0⟩ := B4.out.later hbg); (obtain ⟨lg1, cg1, fg1⟩ := B5.out.later hbg); clear hbg hdg; first | (go_simp; done) | (go_simp; with_reducible rfl))
    simp only [Act.put, List.setIfInBounds_toArray, List.set_cons_zero, List.set_cons_succ]
    refine Grow.val (v := ?_) rfl rfl (fun wg hbg hdg => ?_) ?_
    rotate_left
    focus ((obtain ⟨lg0, cg0, fg0⟩ := B4.out.later hbg); (obtain ⟨lg1, cg1, fg1⟩ := B5.out.later hbg); clear hbg hdg; first | (go_simp; done) | (go_simp; with_reducible rfl))
    simp only [Act.put, List.setIfInBounds_toArray, List.set_cons_zero, List.set_cons_succ]
    refine Grow.val (v := ?_) rfl rfl (fun wg hbg hdg => ?_) ?_
    rotate_left
    focus ((obtain ⟨lg0, cg0, fg0⟩ := B4.out.later hbg); (obtain ⟨lg1, cg1, fg1⟩ := B5.out.later hbg); clear hbg hdg; first | (go_simp; done) | (go_simp; with_reducible rfl))
    simp only [Act.put, List.setIfInBounds_toArray, List.set_cons_zero, List.set_cons_succ]
    refine Grow.call (f := ?_) (args := ?_) rfl (fun wg => ?_) (fun wg hbg hdg => ?_) ?_
    rotate_left 2
    focus (first | (go_simp; done) | (go_simp; refine And.intro ?_ ?_ <;> with_reducible rfl) | (go_simp; with_reducible rfl))
    focus exact Calls.mono (C3.out wg) (fun e w2 ⟨he, hb2⟩ => ⟨_, he, rfl, hb2⟩)
    simp only [Act.put, Known.val, List.setIfInBounds_toArray, List.set_cons_zero, List.set_cons_succ]
    refine Grow.val (v := ?_) rfl rfl (fun wg hbg hdg => ?_) ?_
    rotate_left
    focus ((obtain ⟨lg0, cg0, fg0⟩ := B4.out.later hbg); (obtain ⟨lg1, cg1, fg1⟩ := B5.out.later hbg); clear hbg hdg; first | (go_simp; done) | (go_simp; with_reducible rfl))
    simp only [Act.put, List.setIfInBounds_toArray, List.set_cons_zero, List.set_cons_succ]
    refine Grow.val (v := ?_) rfl rfl (fun wg hbg hdg => ?_) ?_
    rotate_left
    focus ((obtain ⟨lg0, cg0, fg0⟩ := B4.out.later hbg); (obtain ⟨lg1, cg1, fg1⟩ := B5.out.later hbg); clear hbg hdg; first | (go_simp; done) | (go_simp; with_reducible rfl))
    simp only [Act.put, List.setIfInBounds_toArray, List.set_cons_zero, List.set_cons_succ]
    refine Grow.val (v := ?_) rfl rfl (fun wg hbg hdg => ?_) ?_
    rotate_left
    focus ((obtain ⟨lg0, cg0, fg0⟩ := B4.out.later hbg); (obtain ⟨lg1, cg1, fg1⟩ := B5.out.later hbg); clear hbg hdg; first | (go_simp; done) | (go_simp; with_reducible rfl))
    simp only [Act.put, List.setIfInBounds_toArray, List.set_cons_zero, List.set_cons_succ]
    refine Grow.call (f := ?_) (args := ?_) rfl (fun wg => ?_) (fun wg hbg hdg => ?_) ?_
    rotate_left 2
    focus (first | (go_simp; done) | (go_simp; refine And.intro ?_ ?_ <;> with_reducible rfl) | (go_simp; with_reducible rfl))
    focus exact Calls.mono (lawInT (i64_wrap (x * y) ▸ I3.out)) (fun e w2 ⟨he, hb2⟩ => ⟨_, he, rfl, hb2⟩)
    simp only [Act.put, Known.val, List.setIfInBounds_toArray, List.set_cons_zero, List.set_cons_succ]
    refine Grow.val (v := ?_) rfl rfl (fun wg hbg hdg => ?_) ?_
    rotate_left
    focus ((obtain ⟨lg0, cg0, fg0⟩ := B4.out.later hbg); (obtain ⟨lg1, cg1, fg1⟩ := B5.out.later hbg); clear hbg hdg; first | (go_simp; done) | (go_simp; with_reducible rfl))
    simp only [Act.put, List.setIfInBounds_toArray, List.set_cons_zero, List.set_cons_succ]
    refine Grow.val (v := ?_) rfl rfl (fun wg hbg hdg => ?_) ?_
    rotate_left
    focus ((obtain ⟨lg0, cg0, fg0⟩ := B4.out.later hbg); (obtain ⟨lg1, cg1, fg1⟩ := B5.out.later hbg); clear hbg hdg; first | (go_simp; done) | (go_simp; with_reducible rfl))
    simp only [Act.put, List.setIfInBounds_toArray, List.set_cons_zero, List.set_cons_succ]
    refine Grow.val (v := ?_) rfl rfl (fun wg hbg hdg => ?_) ?_
    rotate_left
    focus ((obtain ⟨lg0, cg0, fg0⟩ := B4.out.later hbg); (obtain ⟨lg1, cg1, fg1⟩ := B5.out.later hbg); clear hbg hdg; first | (go_simp; done) | (go_simp; with_reducible rfl))
    simp only [Act.put, List.setIfInBounds_toArray, List.set_cons_zero, List.set_cons_succ]
    refine Grow.val (v := ?_) rfl rfl (fun wg hbg hdg => ?_) ?_
    rotate_left
    focus ((obtain ⟨lg0, cg0, fg0⟩ := B4.out.later hbg); (obtain ⟨lg1, cg1, fg1⟩ := B5.out.later hbg); clear hbg hdg; first | (go_simp; done) | (go_simp; with_reducible rfl))
    simp only [Act.put, List.setIfInBounds_toArray, List.set_cons_zero, List.set_cons_succ]
    refine Grow.val (v := ?_) rfl rfl (fun wg hbg hdg => ?_) ?_
    rotate_left
    focus ((obtain ⟨lg0, cg0, fg0⟩ := B4.out.later hbg); (obtain ⟨lg1, cg1, fg1⟩ := B5.out.later hbg); clear hbg hdg; first | (go_simp; done) | (go_simp; with_reducible rfl))
    simp only [Act.put, List.setIfInBounds_toArray, List.set_cons_zero, List.set_cons_succ]
    refine Grow.made (T := ?_) rfl rfl (fun wg hbg hdg => ?_) ?_
    rotate_left
    focus ((obtain ⟨lg0, cg0, fg0⟩ := B4.out.later hbg); (obtain ⟨lg1, cg1, fg1⟩ := B5.out.later hbg); clear hbg hdg; first | (go_simp; done) | (go_simp; with_reducible rfl))
    simp only [Act.put, Known.val, List.setIfInBounds_toArray, List.set_cons_zero, List.set_cons_succ]
    refine Grow.call (f := ?_) (args := ?_) rfl (fun wg => ?_) (fun wg hbg hdg => ?_) ?_
    rotate_left 2
    focus (first | (go_simp; done) | (go_simp; refine And.intro ?_ ?_ <;> with_reducible rfl) | (go_simp; with_reducible rfl))
    focus ((obtain ⟨bq, hq, _, hX⟩ := hdg 35 (by kernel_rfl)); rw [hq]; exact Calls.mono (spanJoin (spans_box2 hX HA.out HB.out)) (fun e w2 ⟨he, hb2⟩ => ⟨_, he, rfl, hb2⟩))
    simp only [Act.put, Known.val, List.setIfInBounds_toArray, List.set_cons_zero, List.set_cons_succ]
    refine Grow.val (v := ?_) rfl rfl (fun wg hbg hdg => ?_) ?_
    rotate_left
    focus ((obtain ⟨lg0, cg0, fg0⟩ := B4.out.later hbg); (obtain ⟨lg1, cg1, fg1⟩ := B5.out.later hbg); clear hbg hdg; first | (go_simp; done) | (go_simp; with_reducible rfl))
    simp only [Act.put, List.setIfInBounds_toArray, List.set_cons_zero, List.set_cons_succ]
    refine Grow.call (f := ?_) (args := ?_) rfl (fun wg => ?_) (fun wg hbg hdg => ?_) ?_
    rotate_left 2
    focus (first | (go_simp; done) | (go_simp; refine And.intro ?_ ?_ <;> with_reducible rfl) | (go_simp; with_reducible rfl))
    focus exact Calls.mono (lawInT I4.out) (fun e w2 ⟨he, hb2⟩ => ⟨_, he, rfl, hb2⟩)
    simp only [Act.put, Known.val, List.setIfInBounds_toArray, List.set_cons_zero, List.set_cons_succ]
    refine Grow.val (v := ?_) rfl rfl (fun wg hbg hdg => ?_) ?_
    rotate_left
    focus ((obtain ⟨lg0, cg0, fg0⟩ := B4.out.later hbg); (obtain ⟨lg1, cg1, fg1⟩ := B5.out.later hbg); clear hbg hdg; first | (go_simp; done) | (go_simp; with_reducible rfl))
    simp only [Act.put, List.setIfInBounds_toArray, List.set_cons_zero, List.set_cons_succ]
    refine Grow.val (v := ?_) rfl rfl (fun wg hbg hdg => ?_) ?_
    rotate_left
    focus ((obtain ⟨lg0, cg0, fg0⟩ := B4.out.later hbg); (obtain ⟨lg1, cg1, fg1⟩ := B5.out.later hbg); clear hbg hdg; first | (go_simp; done) | (go_simp; with_reducible rfl))
    simp only [Act.put, List.setIfInBounds_toArray, List.set_cons_zero, List.set_cons_succ]
    refine Grow.val (v := ?_) rfl rfl (fun wg hbg hdg => ?_) ?_
    rotate_left
    focus ((obtain ⟨lg0, cg0, fg0⟩ := B4.out.later hbg); (obtain ⟨lg1, cg1, fg1⟩ := B5.out.later hbg); clear hbg hdg; first | (go_simp; done) | (go_simp; with_reducible rfl))
    simp only [Act.put, List.setIfInBounds_toArray, List.set_cons_zero, List.set_cons_succ]
    refine Grow.val (v := ?_) rfl rfl (fun wg hbg hdg => ?_) ?_
    rotate_left
    focus ((obtain ⟨lg0, cg0, fg0⟩ := B4.out.later hbg); (obtain ⟨lg1, cg1, fg1⟩ := B5.out.later hbg); clear hbg hdg; first | (go_simp; done) | (go_simp; with_reducible rfl))
    simp only [Act.put, List.setIfInBounds_toArray, List.set_cons_zero, List.set_cons_succ]
    refine Grow.val (v := ?_) rfl rfl (fun wg hbg hdg => ?_) ?_
    rotate_left
    focus ((obtain ⟨lg0, cg0, fg0⟩ := B4.out.later hbg); (obtain ⟨lg1, cg1, fg1⟩ := B5.out.later hbg); clear hbg hdg; first | (go_simp; done) | (go_simp; with_reducible rfl))
    simp only [Act.put, List.setIfInBounds_toArray, List.set_cons_zero, List.set_cons_succ]
    refine Grow.made (T := ?_) rfl rfl (fun wg hbg hdg => ?_) ?_
    rotate_left
    focus ((obtain ⟨lg0, cg0, fg0⟩ := B4.out.later hbg); (obtain ⟨lg1, cg1, fg1⟩ := B5.out.later hbg); clear hbg hdg; first | (go_simp; done) | (go_simp; with_reducible rfl))
    simp only [Act.put, Known.val, List.setIfInBounds_toArray, List.set_cons_zero, List.set_cons_succ]
    refine Grow.call (f := ?_) (args := ?_) rfl (fun wg => ?_) (fun wg hbg hdg => ?_) ?_
    rotate_left 2
    focus (first | (go_simp; done) | (go_simp; refine And.intro ?_ ?_ <;> with_reducible rfl) | (go_simp; with_reducible rfl))
    focus ((obtain ⟨bq, hq, _, hX⟩ := hdg 44 (by kernel_rfl)); rw [hq]; exact Calls.mono (spanJoin (spans_box2 hX HB.out HA.out)) (fun e w2 ⟨he, hb2⟩ => ⟨_, he, rfl, hb2⟩))
    simp only [Act.put, Known.val, List.setIfInBounds_toArray, List.set_cons_zero, List.set_cons_succ]
    refine Grow.val (v := ?_) rfl rfl (fun wg hbg hdg => ?_) ?_
    rotate_left
    focus ((obtain ⟨lg0, cg0, fg0⟩ := B4.out.later hbg); (obtain ⟨lg1, cg1, fg1⟩ := B5.out.later hbg); clear hbg hdg; first | (go_simp; done) | (go_simp; with_reducible rfl))
    simp only [Act.put, List.setIfInBounds_toArray, List.set_cons_zero, List.set_cons_succ]
    refine Grow.call (f := ?_) (args := ?_) rfl (fun wg => ?_) (fun wg hbg hdg => ?_) ?_
    rotate_left 2
    focus (first | (go_simp; done) | (go_simp; refine And.intro ?_ ?_ <;> with_reducible rfl) | (go_simp; with_reducible rfl))
    focus exact Calls.mono (lawInT I5.out) (fun e w2 ⟨he, hb2⟩ => ⟨_, he, rfl, hb2⟩)
    simp only [Act.put, Known.val, List.setIfInBounds_toArray, List.set_cons_zero, List.set_cons_succ]
    refine Grow.val (v := ?_) rfl rfl (fun wg hbg hdg => ?_) ?_
    rotate_left
    focus ((obtain ⟨lg0, cg0, fg0⟩ := B4.out.later hbg); (obtain ⟨lg1, cg1, fg1⟩ := B5.out.later hbg); clear hbg hdg; first | (go_simp; done) | (go_simp; with_reducible rfl))
    simp only [Act.put, List.setIfInBounds_toArray, List.set_cons_zero, List.set_cons_succ]
    refine Grow.val (v := ?_) rfl rfl (fun wg hbg hdg => ?_) ?_
    rotate_left
    focus ((obtain ⟨lg0, cg0, fg0⟩ := B4.out.later hbg); (obtain ⟨lg1, cg1, fg1⟩ := B5.out.later hbg); clear hbg hdg; first | (go_simp; done) | (go_simp; with_reducible rfl))
    simp only [Act.put, List.setIfInBounds_toArray, List.set_cons_zero, List.set_cons_succ]
    intro wg hb hf hap
    obtain ⟨bB35, hνB35, hBB35, hXB35⟩ := hf 35 (by omega)
    have nB35B4 : bB35 ≠ w.heap.size := fun e => by have := lB4; omega
    have nB4B35 : w.heap.size ≠ bB35 := fun e => nB35B4 e.symm
    have nB35B5 : bB35 ≠ w.heap.size + 1 := fun e => by have := lB5; omega
    have nB5B35 : w.heap.size + 1 ≠ bB35 := fun e => nB35B5 e.symm
    obtain ⟨bB44, hνB44, hBB44, hXB44⟩ := hf 44 (by omega)
    have nB44B4 : bB44 ≠ w.heap.size := fun e => by have := lB4; omega
    have nB4B44 : w.heap.size ≠ bB44 := fun e => nB44B4 e.symm
    have nB44B5 : bB44 ≠ w.heap.size + 1 := fun e => by have := lB5; omega
    have nB5B44 : w.heap.size + 1 ≠ bB44 := fun e => nB44B5 e.symm
    have nB35B44 : bB35 ≠ bB44 := fun e => hap 35 44 (by omega) (by omega) (by omega) rfl rfl (by rw [hνB35, hνB44, e])
    have nB44B35 : bB44 ≠ bB35 := fun e => hap 44 35 (by omega) (by omega) (by omega) rfl rfl (by rw [hνB44, hνB35, e])
    simp only [hνB35, hνB44]
    clear hνB35 hνB44
    clear hap
    have gB35 := Nat.le_trans HW.out.size hBB35
    clear hBB35
    have gB44 := Nat.le_trans HW.out.size hBB44
    clear hBB44
    clear lB4 cB4 fB4 lB5 cB5 fB5
    replace B4 := Lib.hid (B4.out.later hb)
    replace B5 := Lib.hid (B5.out.later hb)
    replace HW := Lib.hid (HW.out.trans (hb.mono HW.out.size))
    clear hb
    have B35 := Lib.hid hXB35
    clear hXB35
    have B44 := Lib.hid hXB44
    clear hXB44
    obtain ⟨lB4, cB4, fB4⟩ := B4.out
    obtain ⟨lB5, cB5, fB5⟩ := B5.out
    obtain ⟨lB35, cB35, fB35⟩ := B35.out
    obtain ⟨lB44, cB44, fB44⟩ := B44.out
    clear hf
    go_upto_region 7 with (fail)
    refine wp_region_grow 10 (fun k => match k with | 2 => .const (.bool (inB b x)) | 5 => .made wg.heap.size (fun b => .slice (some ⟨b, 0, none⟩) 2 2) #[.int .i64 a.lo, .int .i64 a.hi, .int .i64 b.lo, .int .i64 b.hi] | 6 => .const (.agg #[.int .i64 (meetS [a, b]).lo, .int .i64 (meetS [a, b]).hi]) | 8 => .const (.bool (inB b x)) | _ => .plain) (by kernel_rfl) (by kernel_rfl) ?_ (fun ν => ?_)
    · (intro k; (try dsimp only); split <;> first | exact True.intro | (intro u w1 w2 hu hb; exact hu.below hb))
    simp only [List.take_succ_cons, List.take_zero, List.drop_succ_cons, List.drop_zero]
    refine Grow.val (v := ?_) rfl rfl (fun wg hbg hdg => ?_) ?_
    rotate_left
    focus ((obtain ⟨lg0, cg0, fg0⟩ := B4.out.later hbg); (obtain ⟨lg1, cg1, fg1⟩ := B5.out.later hbg); (obtain ⟨lg2, cg2, fg2⟩ := B35.out.later hbg); (obtain ⟨lg3, cg3, fg3⟩ := B44.out.later hbg); clear hbg hdg; first | (go_simp; done) | (go_simp; with_reducible rfl))
    simp only [Act.put, List.setIfInBounds_toArray, List.set_cons_zero, List.set_cons_succ]
    refine Grow.val (v := ?_) rfl rfl (fun wg hbg hdg => ?_) ?_
    rotate_left
    focus ((obtain ⟨lg0, cg0, fg0⟩ := B4.out.later hbg); (obtain ⟨lg1, cg1, fg1⟩ := B5.out.later hbg); (obtain ⟨lg2, cg2, fg2⟩ := B35.out.later hbg); (obtain ⟨lg3, cg3, fg3⟩ := B44.out.later hbg); clear hbg hdg; first | (go_simp; done) | (go_simp; with_reducible rfl))
    simp only [Act.put, List.setIfInBounds_toArray, List.set_cons_zero, List.set_cons_succ]
    refine Grow.call (f := ?_) (args := ?_) rfl (fun wg => ?_) (fun wg hbg hdg => ?_) ?_
    rotate_left 2
    focus (first | (go_simp; done) | (go_simp; refine And.intro ?_ ?_ <;> with_reducible rfl) | (go_simp; with_reducible rfl))
    focus exact Calls.mono (lawIn b x) (fun e w2 ⟨he, hb2⟩ => ⟨_, he, rfl, hb2⟩)
    simp only [Act.put, Known.val, List.setIfInBounds_toArray, List.set_cons_zero, List.set_cons_succ]
    refine Grow.val (v := ?_) rfl rfl (fun wg hbg hdg => ?_) ?_
    rotate_left
    focus ((obtain ⟨lg0, cg0, fg0⟩ := B4.out.later hbg); (obtain ⟨lg1, cg1, fg1⟩ := B5.out.later hbg); (obtain ⟨lg2, cg2, fg2⟩ := B35.out.later hbg); (obtain ⟨lg3, cg3, fg3⟩ := B44.out.later hbg); clear hbg hdg; first | (go_simp; done) | (go_simp; with_reducible rfl))
    simp only [Act.put, List.setIfInBounds_toArray, List.set_cons_zero, List.set_cons_succ]
    refine Grow.val (v := ?_) rfl rfl (fun wg hbg hdg => ?_) ?_
    rotate_left
    focus ((obtain ⟨lg0, cg0, fg0⟩ := B4.out.later hbg); (obtain ⟨lg1, cg1, fg1⟩ := B5.out.later hbg); (obtain ⟨lg2, cg2, fg2⟩ := B35.out.later hbg); (obtain ⟨lg3, cg3, fg3⟩ := B44.out.later hbg); clear hbg hdg; first | (go_simp; done) | (go_simp; with_reducible rfl))
    simp only [Act.put, List.setIfInBounds_toArray, List.set_cons_zero, List.set_cons_succ]
    refine Grow.made (T := ?_) rfl rfl (fun wg hbg hdg => ?_) ?_
    rotate_left
    focus ((obtain ⟨lg0, cg0, fg0⟩ := B4.out.later hbg); (obtain ⟨lg1, cg1, fg1⟩ := B5.out.later hbg); (obtain ⟨lg2, cg2, fg2⟩ := B35.out.later hbg); (obtain ⟨lg3, cg3, fg3⟩ := B44.out.later hbg); clear hbg hdg; first | (go_simp; done) | (go_simp; with_reducible rfl))
    simp only [Act.put, Known.val, List.setIfInBounds_toArray, List.set_cons_zero, List.set_cons_succ]
    refine Grow.call (f := ?_) (args := ?_) rfl (fun wg => ?_) (fun wg hbg hdg => ?_) ?_
    rotate_left 2
    focus (first | (go_simp; done) | (go_simp; refine And.intro ?_ ?_ <;> with_reducible rfl) | (go_simp; with_reducible rfl))
    focus ((obtain ⟨bq, hq, _, hX⟩ := hdg 5 (by kernel_rfl)); rw [hq]; exact Calls.mono (spanMeet (spans_box2 hX HA.out HB.out)) (fun e w2 ⟨he, hb2⟩ => ⟨_, he, rfl, hb2⟩))
    simp only [Act.put, Known.val, List.setIfInBounds_toArray, List.set_cons_zero, List.set_cons_succ]
    refine Grow.val (v := ?_) rfl rfl (fun wg hbg hdg => ?_) ?_
    rotate_left
    focus ((obtain ⟨lg0, cg0, fg0⟩ := B4.out.later hbg); (obtain ⟨lg1, cg1, fg1⟩ := B5.out.later hbg); (obtain ⟨lg2, cg2, fg2⟩ := B35.out.later hbg); (obtain ⟨lg3, cg3, fg3⟩ := B44.out.later hbg); clear hbg hdg; first | (go_simp; done) | (go_simp; with_reducible rfl))
    simp only [Act.put, List.setIfInBounds_toArray, List.set_cons_zero, List.set_cons_succ]
    refine Grow.call (f := ?_) (args := ?_) rfl (fun wg => ?_) (fun wg hbg hdg => ?_) ?_
    rotate_left 2
    focus (first | (go_simp; done) | (go_simp; refine And.intro ?_ ?_ <;> with_reducible rfl) | (go_simp; with_reducible rfl))
    focus exact Calls.mono (lawInE I6.out) (fun e w2 ⟨he, hb2⟩ => ⟨_, he, rfl, hb2⟩)
    simp only [Act.put, Known.val, List.setIfInBounds_toArray, List.set_cons_zero, List.set_cons_succ]
    refine Grow.val (v := ?_) rfl rfl (fun wg hbg hdg => ?_) ?_
    rotate_left
    focus ((obtain ⟨lg0, cg0, fg0⟩ := B4.out.later hbg); (obtain ⟨lg1, cg1, fg1⟩ := B5.out.later hbg); (obtain ⟨lg2, cg2, fg2⟩ := B35.out.later hbg); (obtain ⟨lg3, cg3, fg3⟩ := B44.out.later hbg); clear hbg hdg; first | (go_simp; done) | (go_simp; with_reducible rfl))
    simp only [Act.put, List.setIfInBounds_toArray, List.set_cons_zero, List.set_cons_succ]
    intro wg hb hf hap
    obtain ⟨bB5b, hνB5b, hBB5b, hXB5b⟩ := hf 5 (by omega)
    have nB5bB4 : bB5b ≠ w.heap.size := fun e => by have := lB4; omega
    have nB4B5b : w.heap.size ≠ bB5b := fun e => nB5bB4 e.symm
    have nB5bB5 : bB5b ≠ w.heap.size + 1 := fun e => by have := lB5; omega
    have nB5B5b : w.heap.size + 1 ≠ bB5b := fun e => nB5bB5 e.symm
    have nB5bB35 : bB5b ≠ bB35 := fun e => by have := lB35; omega
    have nB35B5b : bB35 ≠ bB5b := fun e => nB5bB35 e.symm
    have nB5bB44 : bB5b ≠ bB44 := fun e => by have := lB44; omega
    have nB44B5b : bB44 ≠ bB5b := fun e => nB5bB44 e.symm
    simp only [hνB5b]
    clear hνB5b
    clear hap
    have gB5b := Nat.le_trans HW.out.size hBB5b
    clear hBB5b
    clear lB4 cB4 fB4 lB5 cB5 fB5 lB35 cB35 fB35 lB44 cB44 fB44
    replace B4 := Lib.hid (B4.out.later hb)
    replace B5 := Lib.hid (B5.out.later hb)
    replace B35 := Lib.hid (B35.out.later hb)
    replace B44 := Lib.hid (B44.out.later hb)
    replace HW := Lib.hid (HW.out.trans (hb.mono HW.out.size))
    clear hb
    have B5b := Lib.hid hXB5b
    clear hXB5b
    obtain ⟨lB4, cB4, fB4⟩ := B4.out
    obtain ⟨lB5, cB5, fB5⟩ := B5.out
    obtain ⟨lB35, cB35, fB35⟩ := B35.out
    obtain ⟨lB44, cB44, fB44⟩ := B44.out
    obtain ⟨lB5b, cB5b, fB5b⟩ := B5b.out
    clear hf
    generalize inB b x = z at *
    go_wp2_with fail
    refine (C4.out _).mono ?_
    rintro e w9 ⟨rfl, hb9⟩
    clear lB4 cB4 fB4 lB5 cB5 fB5 lB35 cB35 fB35 lB44 cB44 fB44 lB5b cB5b fB5b
    replace B4 := Lib.hid (B4.out.later hb9)
    replace B5 := Lib.hid (B5.out.later hb9)
    replace B35 := Lib.hid (B35.out.later hb9)
    replace B44 := Lib.hid (B44.out.later hb9)
    replace B5b := Lib.hid (B5b.out.later hb9)
    replace HW := Lib.hid (HW.out.trans (hb9.mono HW.out.size))
    clear hb9
    obtain ⟨lB4, cB4, fB4⟩ := B4.out
    obtain ⟨lB5, cB5, fB5⟩ := B5.out
    obtain ⟨lB35, cB35, fB35⟩ := B35.out
    obtain ⟨lB44, cB44, fB44⟩ := B44.out
    obtain ⟨lB5b, cB5b, fB5b⟩ := B5b.out
    rcases I7.out with h | ⟨h, h2⟩ | ⟨h, h2⟩
    · rw [h]
      clear h
      go_wp2
      go_ret
      exact ⟨rfl, HW.out⟩
    · rw [h]
      clear h
      have h3 : decide (x < y) = true := by simpa using h2
      clear h2
      go_wp2
      go_ret
      exact ⟨rfl, HW.out⟩
    · rw [h]
      clear h
      have h3 : decide (x < y) = false := by simpa using h2
      clear h2
      go_wp2
      go_ret
      exact ⟨rfl, HW.out⟩
end Go.Proofs.Ytppnmdplojemcaa
