/- The laws of joins and of products: their walks. -/
import Derived.Test.YtppnmdplojemcaaSpan11
namespace Go.Proofs.Ytppnmdplojemcaa
set_option linter.unusedSimpArgs false
set_option linter.unusedVariables false
open Go.RowKit

set_option maxHeartbeats 3200000 in
theorem walkProducts {w : World} (a b : Sp) (ha : a.ok) (hb : b.ok) : Calls Try.prog 6 #[a.val, b.val] w fun e w' => e = .returned (.bool true) ∧ Below w.heap.size w w' := by
  have C1 := Lib.hid (fun w : World => spanMul (w := w) a b ha hb)
  have C2 := Lib.hid (fun w : World => refMul (w := w) a b ha hb)
  have C3 := Lib.hid (fun w : World => spanLess (w := w) a b ha hb)
  have C4 := Lib.hid (fun w : World => refLess (w := w) a b)
  clear ha hb
  unfold Sp.val at C1 C2 C3 C4 ⊢
  go_enter Try.func6, Try.ntmps6
  go_upto_region 1 with (fail)
  have B0 : Hid (Box ((w.alloc (.cells #[.int .i64 a.lo, .int .i64 a.hi] 23)).alloc (.cells #[.int .i64 b.lo, .int .i64 b.hi] 23)) (w.heap.size) #[.int .i64 a.lo, .int .i64 a.hi]) := Lib.hid (by simpa using ((Box.new w #[.int .i64 a.lo, .int .i64 a.hi] 23).alloc _))
  have B1 : Hid (Box ((w.alloc (.cells #[.int .i64 a.lo, .int .i64 a.hi] 23)).alloc (.cells #[.int .i64 b.lo, .int .i64 b.hi] 23)) (w.heap.size + 1) #[.int .i64 b.lo, .int .i64 b.hi]) := Lib.hid (by simpa using (Box.new (w.alloc (.cells #[.int .i64 a.lo, .int .i64 a.hi] 23)) #[.int .i64 b.lo, .int .i64 b.hi] 23))
  have HW : Hid (Below w.heap.size w ((w.alloc (.cells #[.int .i64 a.lo, .int .i64 a.hi] 23)).alloc (.cells #[.int .i64 b.lo, .int .i64 b.hi] 23))) := Lib.hid (((Below.refl _ _).alloc (Nat.le_refl _) _).alloc (by simp) _)
  generalize ((w.alloc (.cells #[.int .i64 a.lo, .int .i64 a.hi] 23)).alloc (.cells #[.int .i64 b.lo, .int .i64 b.hi] 23)) = wv at *
  obtain ⟨lB0, cB0, fB0⟩ := B0.out
  obtain ⟨lB1, cB1, fB1⟩ := B1.out
  refine wp_region_grow 20 (fun k => match k with | 0 => .const (.bool true) | 4 => .const (.agg #[.int .i64 (mulS a b).lo, .int .i64 (mulS a b).hi]) | 7 => .const (.agg #[.int .i64 (mulS a b).lo, .int .i64 (mulS a b).hi]) | 13 => .const (.int .i64 (lessI a b)) | 16 => .const (.int .i64 (lessI a b)) | _ => .plain) (by kernel_rfl) (by kernel_rfl) ?_ (fun ν => ?_)
  · (intro k; (try dsimp only); split <;> first | exact True.intro | (intro u w1 w2 hu hb; exact hu.below hb))
  simp only [List.take_succ_cons, List.take_zero, List.drop_succ_cons, List.drop_zero]
  refine Grow.call (f := ?_) (args := ?_) rfl (fun wg => ?_) (fun wg hbg hdg => ?_) ?_
  rotate_left 2
  focus (first | (go_simp; done) | (go_simp; refine And.intro ?_ ?_ <;> with_reducible rfl) | (go_simp; with_reducible rfl))
  focus exact Calls.mono (awakeSpan) (fun e w2 ⟨he, hb2⟩ => ⟨_, he, rfl, hb2⟩)
  simp only [Act.put, Known.val, List.setIfInBounds_toArray, List.set_cons_zero, List.set_cons_succ]
  refine Grow.val (v := ?_) rfl rfl (fun wg hbg hdg => ?_) ?_
  rotate_left
  focus ((obtain ⟨lg0, cg0, fg0⟩ := B0.out.later hbg); (obtain ⟨lg1, cg1, fg1⟩ := B1.out.later hbg); clear hbg hdg; first | (go_simp; done) | (go_simp; with_reducible rfl))
  simp only [Act.put, List.setIfInBounds_toArray, List.set_cons_zero, List.set_cons_succ]
  refine Grow.val (v := ?_) rfl rfl (fun wg hbg hdg => ?_) ?_
  rotate_left
  focus ((obtain ⟨lg0, cg0, fg0⟩ := B0.out.later hbg); (obtain ⟨lg1, cg1, fg1⟩ := B1.out.later hbg); clear hbg hdg; first | (go_simp; done) | (go_simp; with_reducible rfl))
  simp only [Act.put, List.setIfInBounds_toArray, List.set_cons_zero, List.set_cons_succ]
  refine Grow.val (v := ?_) rfl rfl (fun wg hbg hdg => ?_) ?_
  rotate_left
  focus ((obtain ⟨lg0, cg0, fg0⟩ := B0.out.later hbg); (obtain ⟨lg1, cg1, fg1⟩ := B1.out.later hbg); clear hbg hdg; first | (go_simp; done) | (go_simp; with_reducible rfl))
  simp only [Act.put, List.setIfInBounds_toArray, List.set_cons_zero, List.set_cons_succ]
  refine Grow.call (f := ?_) (args := ?_) rfl (fun wg => ?_) (fun wg hbg hdg => ?_) ?_
  rotate_left 2
  focus (first | (go_simp; done) | (go_simp; refine And.intro ?_ ?_ <;> with_reducible rfl) | (go_simp; with_reducible rfl))
  focus exact Calls.mono (C1.out wg) (fun e w2 ⟨he, hb2⟩ => ⟨_, he, rfl, hb2⟩)
  simp only [Act.put, Known.val, List.setIfInBounds_toArray, List.set_cons_zero, List.set_cons_succ]
  refine Grow.val (v := ?_) rfl rfl (fun wg hbg hdg => ?_) ?_
  rotate_left
  focus ((obtain ⟨lg0, cg0, fg0⟩ := B0.out.later hbg); (obtain ⟨lg1, cg1, fg1⟩ := B1.out.later hbg); clear hbg hdg; first | (go_simp; done) | (go_simp; with_reducible rfl))
  simp only [Act.put, List.setIfInBounds_toArray, List.set_cons_zero, List.set_cons_succ]
  refine Grow.val (v := ?_) rfl rfl (fun wg hbg hdg => ?_) ?_
  rotate_left
  focus ((obtain ⟨lg0, cg0, fg0⟩ := B0.out.later hbg); (obtain ⟨lg1, cg1, fg1⟩ := B1.out.later hbg); clear hbg hdg; first | (go_simp; done) | (go_simp; with_reducible rfl))
  simp only [Act.put, List.setIfInBounds_toArray, List.set_cons_zero, List.set_cons_succ]
  refine Grow.call (f := ?_) (args := ?_) rfl (fun wg => ?_) (fun wg hbg hdg => ?_) ?_
  rotate_left 2
  focus (first | (go_simp; done) | (go_simp; refine And.intro ?_ ?_ <;> with_reducible rfl) | (go_simp; with_reducible rfl))
  focus exact Calls.mono (C2.out wg) (fun e w2 ⟨he, hb2⟩ => ⟨_, he, rfl, hb2⟩)
  simp only [Act.put, Known.val, List.setIfInBounds_toArray, List.set_cons_zero, List.set_cons_succ]
  refine Grow.val (v := ?_) rfl rfl (fun wg hbg hdg => ?_) ?_
  rotate_left
  focus ((obtain ⟨lg0, cg0, fg0⟩ := B0.out.later hbg); (obtain ⟨lg1, cg1, fg1⟩ := B1.out.later hbg); clear hbg hdg; first | (go_simp; done) | (go_simp; with_reducible rfl))
  simp only [Act.put, List.setIfInBounds_toArray, List.set_cons_zero, List.set_cons_succ]
  refine Grow.val (v := ?_) rfl rfl (fun wg hbg hdg => ?_) ?_
  rotate_left
  focus ((obtain ⟨lg0, cg0, fg0⟩ := B0.out.later hbg); (obtain ⟨lg1, cg1, fg1⟩ := B1.out.later hbg); clear hbg hdg; first | (go_simp; done) | (go_simp; with_reducible rfl))
  simp only [Act.put, List.setIfInBounds_toArray, List.set_cons_zero, List.set_cons_succ]
  refine Grow.val (v := ?_) rfl rfl (fun wg hbg hdg => ?_) ?_
  rotate_left
  focus ((obtain ⟨lg0, cg0, fg0⟩ := B0.out.later hbg); (obtain ⟨lg1, cg1, fg1⟩ := B1.out.later hbg); clear hbg hdg; first | (go_simp; done) | (go_simp; with_reducible rfl))
  simp only [Act.put, List.setIfInBounds_toArray, List.set_cons_zero, List.set_cons_succ]
  refine Grow.val (v := ?_) rfl rfl (fun wg hbg hdg => ?_) ?_
  rotate_left
  focus ((obtain ⟨lg0, cg0, fg0⟩ := B0.out.later hbg); (obtain ⟨lg1, cg1, fg1⟩ := B1.out.later hbg); clear hbg hdg; first | (go_simp; done) | (go_simp; with_reducible rfl))
  simp only [Act.put, List.setIfInBounds_toArray, List.set_cons_zero, List.set_cons_succ]
  refine Grow.val (v := ?_) rfl rfl (fun wg hbg hdg => ?_) ?_
  rotate_left
  focus ((obtain ⟨lg0, cg0, fg0⟩ := B0.out.later hbg); (obtain ⟨lg1, cg1, fg1⟩ := B1.out.later hbg); clear hbg hdg; first | (go_simp; done) | (go_simp; with_reducible rfl))
  simp only [Act.put, List.setIfInBounds_toArray, List.set_cons_zero, List.set_cons_succ]
  refine Grow.call (f := ?_) (args := ?_) rfl (fun wg => ?_) (fun wg hbg hdg => ?_) ?_
  rotate_left 2
  focus (first | (go_simp; done) | (go_simp; refine And.intro ?_ ?_ <;> with_reducible rfl) | (go_simp; with_reducible rfl))
  focus exact Calls.mono (C3.out wg) (fun e w2 ⟨he, hb2⟩ => ⟨_, he, rfl, hb2⟩)
  simp only [Act.put, Known.val, List.setIfInBounds_toArray, List.set_cons_zero, List.set_cons_succ]
  refine Grow.val (v := ?_) rfl rfl (fun wg hbg hdg => ?_) ?_
  rotate_left
  focus ((obtain ⟨lg0, cg0, fg0⟩ := B0.out.later hbg); (obtain ⟨lg1, cg1, fg1⟩ := B1.out.later hbg); clear hbg hdg; first | (go_simp; done) | (go_simp; with_reducible rfl))
  simp only [Act.put, List.setIfInBounds_toArray, List.set_cons_zero, List.set_cons_succ]
  refine Grow.val (v := ?_) rfl rfl (fun wg hbg hdg => ?_) ?_
  rotate_left
  focus ((obtain ⟨lg0, cg0, fg0⟩ := B0.out.later hbg); (obtain ⟨lg1, cg1, fg1⟩ := B1.out.later hbg); clear hbg hdg; first | (go_simp; done) | (go_simp; with_reducible rfl))
  simp only [Act.put, List.setIfInBounds_toArray, List.set_cons_zero, List.set_cons_succ]
  refine Grow.call (f := ?_) (args := ?_) rfl (fun wg => ?_) (fun wg hbg hdg => ?_) ?_
  rotate_left 2
  focus (first | (go_simp; done) | (go_simp; refine And.intro ?_ ?_ <;> with_reducible rfl) | (go_simp; with_reducible rfl))
  focus exact Calls.mono (C4.out wg) (fun e w2 ⟨he, hb2⟩ => ⟨_, he, rfl, hb2⟩)
  simp only [Act.put, Known.val, List.setIfInBounds_toArray, List.set_cons_zero, List.set_cons_succ]
  refine Grow.val (v := ?_) rfl rfl (fun wg hbg hdg => ?_) ?_
  rotate_left
  focus ((obtain ⟨lg0, cg0, fg0⟩ := B0.out.later hbg); (obtain ⟨lg1, cg1, fg1⟩ := B1.out.later hbg); clear hbg hdg; first | (go_simp; done) | (go_simp; with_reducible rfl))
  simp only [Act.put, List.setIfInBounds_toArray, List.set_cons_zero, List.set_cons_succ]
  refine Grow.val (v := ?_) rfl rfl (fun wg hbg hdg => ?_) ?_
  rotate_left
  focus ((obtain ⟨lg0, cg0, fg0⟩ := B0.out.later hbg); (obtain ⟨lg1, cg1, fg1⟩ := B1.out.later hbg); clear hbg hdg; first | (go_simp; done) | (go_simp; with_reducible rfl))
  simp only [Act.put, List.setIfInBounds_toArray, List.set_cons_zero, List.set_cons_succ]
  refine Grow.val (v := ?_) rfl rfl (fun wg hbg hdg => ?_) ?_
  rotate_left
  focus ((obtain ⟨lg0, cg0, fg0⟩ := B0.out.later hbg); (obtain ⟨lg1, cg1, fg1⟩ := B1.out.later hbg); clear hbg hdg; first | (go_simp; done) | (go_simp; with_reducible rfl))
  simp only [Act.put, List.setIfInBounds_toArray, List.set_cons_zero, List.set_cons_succ]
  intro wg hb hf hap
  clear hap
  clear lB0 cB0 fB0 lB1 cB1 fB1
  replace B0 := Lib.hid (B0.out.later hb)
  replace B1 := Lib.hid (B1.out.later hb)
  replace HW := Lib.hid (HW.out.trans (hb.mono HW.out.size))
  clear hb
  obtain ⟨lB0, cB0, fB0⟩ := B0.out
  obtain ⟨lB1, cB1, fB1⟩ := B1.out
  go_wp2
  go_ret
  exact ⟨rfl, HW.out⟩

set_option maxHeartbeats 3200000 in
theorem walkJoins {w : World} {v : Value} {ps : List Sp} (hv : Spans w v ps) : Calls Try.prog 5 #[v] w fun e w' => e = .returned (.bool true) ∧ Below w.heap.size w w' := by
  have HV := Lib.hid hv
  clear hv
  have HW : Hid (Below w.heap.size w w) := Lib.hid (Below.refl _ _)
  go_enter Try.func5, Try.ntmps5
  go_wp2_with fail
  refine awakeSpan.mono ?_
  rintro e w1 ⟨rfl, hb1⟩
  replace HW := Lib.hid (HW.out.trans (hb1.mono HW.out.size))
  clear hb1
  replace HV := Lib.hid (HV.out.below HW.out)
  go_wp2_with fail
  refine (spanJoin HV.out).mono ?_
  rintro e w2 ⟨rfl, hb2⟩
  replace HV := Lib.hid (HV.out.below hb2)
  replace HW := Lib.hid (HW.out.trans (hb2.mono HW.out.size))
  clear hb2
  go_wp2_with fail
  refine (refJoin HV.out).mono ?_
  rintro e w3 ⟨rfl, hb3⟩
  replace HV := Lib.hid (HV.out.below hb3)
  replace HW := Lib.hid (HW.out.trans (hb3.mono HW.out.size))
  clear hb3
  unfold Sp.val
  go_wp2_with fail
  refine (spanMeet HV.out).mono ?_
  rintro e w4 ⟨rfl, hb4⟩
  replace HV := Lib.hid (HV.out.below hb4)
  replace HW := Lib.hid (HW.out.trans (hb4.mono HW.out.size))
  clear hb4
  go_wp2_with fail
  refine (refMeet HV.out).mono ?_
  rintro e w5 ⟨rfl, hb5⟩
  replace HW := Lib.hid (HW.out.trans (hb5.mono HW.out.size))
  clear hb5
  unfold Sp.val
  go_wp2
  go_ret
  exact ⟨rfl, HW.out⟩
end Go.Proofs.Ytppnmdplojemcaa
