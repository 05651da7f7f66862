/- Sums of spans, the program's. -/
import Derived.Test.YtppnmdplojemcaaSpan2
import Derived.Test.YtppnmdplojemcaaKit
import Derived.Deep.Cut
namespace Go.Proofs.Ytppnmdplojemcaa
set_option linter.unusedSimpArgs false
set_option linter.unusedVariables false
open Go.RowKit

theorem spans_two {w : World} {e : TypeId} {s t : Sp} (hs : s.ok) (ht : t.ok) : Spans (w.alloc (.cells #[.int .i64 s.lo, .int .i64 s.hi, .int .i64 t.lo, .int .i64 t.hi] e)) (.slice (some ⟨w.heap.size, 0, none⟩) 2 2) [s, t] := by
  refine ⟨(Blk.new _ rfl).row (by rfl) (Nat.le_refl _) (by unfold maxLen; omega) (by simp), ?_⟩
  intro p hp
  rcases List.mem_cons.1 hp with rfl | hp
  · exact hs
  · rcases List.mem_cons.1 hp with rfl | hp
    · exact ht
    · cases hp

def addS (a b : Sp) : Sp := if a.none || b.none then ⟨0, -1⟩ else
  foldR (whi a.lo + whi b.lo + (wlo a.lo + wlo b.lo) / 18446744073709551616) ((wlo a.lo + wlo b.lo) % 18446744073709551616) (whi a.hi + whi b.hi + (wlo a.hi + wlo b.hi) / 18446744073709551616) ((wlo a.hi + wlo b.hi) % 18446744073709551616)

set_option maxHeartbeats 1600000 in
theorem spanAdd {w : World} (a b : Sp) (ha : a.ok) (hb : b.ok) : Calls Try.prog 10 #[a.val, b.val] w fun e w' => e = .returned (addS a b).val ∧ Below w.heap.size w w' := by
  have HA := Lib.hid ha
  have HB := Lib.hid hb
  clear ha hb
  have HE := Lib.hid (show [a, b].any Sp.none = (a.none || b.none) by simp)
  unfold Sp.val
  go_enter Try.func10, Try.ntmps10
  go_upto_region 1 with (fail)
  have B0 : Hid (Box (((w.alloc (.cells #[.int .i64 a.lo, .int .i64 a.hi] 23)).alloc (.cells #[.int .i64 b.lo, .int .i64 b.hi] 23)).alloc (.cells #[.int .i64 0, .int .i64 0] 23)) (w.heap.size) #[.int .i64 a.lo, .int .i64 a.hi]) := Lib.hid (by simpa using (((Box.new w #[.int .i64 a.lo, .int .i64 a.hi] 23).alloc _).alloc _))
  have B1 : Hid (Box (((w.alloc (.cells #[.int .i64 a.lo, .int .i64 a.hi] 23)).alloc (.cells #[.int .i64 b.lo, .int .i64 b.hi] 23)).alloc (.cells #[.int .i64 0, .int .i64 0] 23)) (w.heap.size + 1) #[.int .i64 b.lo, .int .i64 b.hi]) := Lib.hid (by simpa using ((Box.new (w.alloc (.cells #[.int .i64 a.lo, .int .i64 a.hi] 23)) #[.int .i64 b.lo, .int .i64 b.hi] 23).alloc _))
  have B2 : Hid (Box (((w.alloc (.cells #[.int .i64 a.lo, .int .i64 a.hi] 23)).alloc (.cells #[.int .i64 b.lo, .int .i64 b.hi] 23)).alloc (.cells #[.int .i64 0, .int .i64 0] 23)) (w.heap.size + 1 + 1) #[.int .i64 0, .int .i64 0]) := Lib.hid (by simpa using (Box.new ((w.alloc (.cells #[.int .i64 a.lo, .int .i64 a.hi] 23)).alloc (.cells #[.int .i64 b.lo, .int .i64 b.hi] 23)) #[.int .i64 0, .int .i64 0] 23))
  have HW : Hid (Below w.heap.size w (((w.alloc (.cells #[.int .i64 a.lo, .int .i64 a.hi] 23)).alloc (.cells #[.int .i64 b.lo, .int .i64 b.hi] 23)).alloc (.cells #[.int .i64 0, .int .i64 0] 23))) := Lib.hid ((((Below.refl _ _).alloc (Nat.le_refl _) _).alloc (by simp) _).alloc (by simp; omega) _)
  generalize (((w.alloc (.cells #[.int .i64 a.lo, .int .i64 a.hi] 23)).alloc (.cells #[.int .i64 b.lo, .int .i64 b.hi] 23)).alloc (.cells #[.int .i64 0, .int .i64 0] 23)) = wv at *
  obtain ⟨lB0, cB0, fB0⟩ := B0.out
  obtain ⟨lB1, cB1, fB1⟩ := B1.out
  obtain ⟨lB2, cB2, fB2⟩ := B2.out
  go_wp2_with fail
  refine (empty (spans_two HA.out HB.out)).mono ?_
  rintro e w4 ⟨rfl, hb4⟩
  replace hb4 := below_alloc hb4
  clear lB0 cB0 fB0 lB1 cB1 fB1 lB2 cB2 fB2
  replace B0 := Lib.hid (B0.out.later hb4)
  replace B1 := Lib.hid (B1.out.later hb4)
  replace B2 := Lib.hid (B2.out.later hb4)
  replace HW := Lib.hid (HW.out.trans (hb4.mono HW.out.size))
  clear hb4
  obtain ⟨lB0, cB0, fB0⟩ := B0.out
  obtain ⟨lB1, cB1, fB1⟩ := B1.out
  obtain ⟨lB2, cB2, fB2⟩ := B2.out
  rw [HE.out]
  cases hem : (a.none || b.none)
  case true =>
    have HM := Lib.hid (show addS a b = ⟨0, -1⟩ by unfold addS; rw [hem]; rfl)
    clear hem
    go_wp2_with fail
    refine none_any.mono ?_
    rintro e w9 ⟨rfl, hb9⟩
    clear lB0 cB0 fB0 lB1 cB1 fB1 lB2 cB2 fB2
    replace B0 := Lib.hid (B0.out.later hb9)
    replace B1 := Lib.hid (B1.out.later hb9)
    replace B2 := Lib.hid (B2.out.later hb9)
    replace HW := Lib.hid (HW.out.trans (hb9.mono HW.out.size))
    clear hb9
    obtain ⟨lB0, cB0, fB0⟩ := B0.out
    obtain ⟨lB1, cB1, fB1⟩ := B1.out
    obtain ⟨lB2, cB2, fB2⟩ := B2.out
    unfold Sp.val
    go_wp2
    exact bodyPost_ret (v := .agg #[.int .i64 0, .int .i64 (-1)]) (by simp [results, Try.results10, go_sem, *]) rfl ⟨by rw [HM.out], (HW.out.setCell (by simp; omega) _).setCell (by simp; omega) _⟩
  case false =>
    have HM := Lib.hid (show addS a b = foldR (whi a.lo + whi b.lo + (wlo a.lo + wlo b.lo) / 18446744073709551616) ((wlo a.lo + wlo b.lo) % 18446744073709551616) (whi a.hi + whi b.hi + (wlo a.hi + wlo b.hi) / 18446744073709551616) ((wlo a.hi + wlo b.hi) % 18446744073709551616) by unfold addS; rw [hem]; rfl)
    clear hem
    have A1 := HA.out.1
    have A2 := HA.out.2
    have A3 := HB.out.1
    have A4 := HB.out.2
    unfold In64 at A1 A2 A3 A4
    have P1 := Lib.hid (fun (w : World) => plus (w := w) (whi a.lo) (wlo a.lo) (whi b.lo) (wlo b.lo) (by unfold wlo; omega) (by unfold wlo; omega) (by unfold wlo; omega) (by unfold wlo; omega) (by unfold whi; omega) (by unfold whi; omega) (by unfold whi; omega) (by unfold whi; omega))
    have P2 := Lib.hid (fun (w : World) => plus (w := w) (whi a.hi) (wlo a.hi) (whi b.hi) (wlo b.hi) (by unfold wlo; omega) (by unfold wlo; omega) (by unfold wlo; omega) (by unfold wlo; omega) (by unfold whi; omega) (by unfold whi; omega) (by unfold whi; omega) (by unfold whi; omega))
    have F1 := Lib.hid (fun (w : World) => fold (w := w) (whi a.lo + whi b.lo + (wlo a.lo + wlo b.lo) / 18446744073709551616) ((wlo a.lo + wlo b.lo) % 18446744073709551616) (whi a.hi + whi b.hi + (wlo a.hi + wlo b.hi) / 18446744073709551616) ((wlo a.hi + wlo b.hi) % 18446744073709551616)
      (by omega) (by omega) (by omega) (by omega) (by unfold whi wlo; omega) (by unfold whi wlo; omega) (by unfold whi wlo; omega) (by unfold whi wlo; omega))
    clear A1 A2 A3 A4
    go_wp2_with fail
    refine wp_region_grow 15 (fun k => match k with | 2 => .const (wideV (whi a.lo) (wlo a.lo)) | 5 => .const (wideV (whi b.lo) (wlo b.lo)) | 6 => .const (wideV (whi a.lo + whi b.lo + (wlo a.lo + wlo b.lo) / 18446744073709551616) ((wlo a.lo + wlo b.lo) % 18446744073709551616)) | 9 => .const (wideV (whi a.hi) (wlo a.hi)) | 12 => .const (wideV (whi b.hi) (wlo b.hi)) | 13 => .const (wideV (whi a.hi + whi b.hi + (wlo a.hi + wlo b.hi) / 18446744073709551616) ((wlo a.hi + wlo b.hi) % 18446744073709551616)) | 14 => .const ((addS a b).val) | _ => .plain) (by kernel_rfl) (by kernel_rfl) ?_ (fun ν => ?_)
    · (intro k; (try dsimp only); split <;> first | exact True.intro | (intro u w1 w2 hu hb; exact hu.below hb))
    simp only [List.take_succ_cons, List.take_zero, List.drop_succ_cons, List.drop_zero]
    refine Grow.val (v := ?_) rfl rfl (fun wg hbg hdg => ?_) ?_
    rotate_left
    focus ((obtain ⟨lg0, cg0, fg0⟩ := B0.out.later hbg); (obtain ⟨lg1, cg1, fg1⟩ := B1.out.later hbg); (obtain ⟨lg2, cg2, fg2⟩ := B2.out.later hbg); clear hbg hdg; first | (go_simp; done) | (go_simp; with_reducible rfl))
    simp only [Act.put, List.setIfInBounds_toArray, List.set_cons_zero, List.set_cons_succ]
    refine Grow.val (v := ?_) rfl rfl (fun wg hbg hdg => ?_) ?_
    rotate_left
    focus ((obtain ⟨lg0, cg0, fg0⟩ := B0.out.later hbg); (obtain ⟨lg1, cg1, fg1⟩ := B1.out.later hbg); (obtain ⟨lg2, cg2, fg2⟩ := B2.out.later hbg); clear hbg hdg; first | (go_simp; done) | (go_simp; with_reducible rfl))
    simp only [Act.put, List.setIfInBounds_toArray, List.set_cons_zero, List.set_cons_succ]
    refine Grow.call (f := ?_) (args := ?_) rfl (fun wg => ?_) (fun wg hbg hdg => ?_) ?_
    rotate_left 2
    focus (first | (go_simp; done) | (go_simp; refine And.intro ?_ ?_ <;> with_reducible rfl) | (go_simp; with_reducible rfl))
    focus exact Calls.mono (widen a.lo HA.out.1) (fun e w2 ⟨he, hb2⟩ => ⟨_, he, rfl, hb2⟩)
    simp only [Act.put, Known.val, List.setIfInBounds_toArray, List.set_cons_zero, List.set_cons_succ]
    refine Grow.val (v := ?_) rfl rfl (fun wg hbg hdg => ?_) ?_
    rotate_left
    focus ((obtain ⟨lg0, cg0, fg0⟩ := B0.out.later hbg); (obtain ⟨lg1, cg1, fg1⟩ := B1.out.later hbg); (obtain ⟨lg2, cg2, fg2⟩ := B2.out.later hbg); clear hbg hdg; first | (go_simp; done) | (go_simp; with_reducible rfl))
    simp only [Act.put, List.setIfInBounds_toArray, List.set_cons_zero, List.set_cons_succ]
    refine Grow.val (v := ?_) rfl rfl (fun wg hbg hdg => ?_) ?_
    rotate_left
    focus ((obtain ⟨lg0, cg0, fg0⟩ := B0.out.later hbg); (obtain ⟨lg1, cg1, fg1⟩ := B1.out.later hbg); (obtain ⟨lg2, cg2, fg2⟩ := B2.out.later hbg); clear hbg hdg; first | (go_simp; done) | (go_simp; with_reducible rfl))
    simp only [Act.put, List.setIfInBounds_toArray, List.set_cons_zero, List.set_cons_succ]
    refine Grow.call (f := ?_) (args := ?_) rfl (fun wg => ?_) (fun wg hbg hdg => ?_) ?_
    rotate_left 2
    focus (first | (go_simp; done) | (go_simp; refine And.intro ?_ ?_ <;> with_reducible rfl) | (go_simp; with_reducible rfl))
    focus exact Calls.mono (widen b.lo HB.out.1) (fun e w2 ⟨he, hb2⟩ => ⟨_, he, rfl, hb2⟩)
    simp only [Act.put, Known.val, List.setIfInBounds_toArray, List.set_cons_zero, List.set_cons_succ]
    refine Grow.call (f := ?_) (args := ?_) rfl (fun wg => ?_) (fun wg hbg hdg => ?_) ?_
    rotate_left 2
    focus (first | (go_simp; done) | (go_simp; refine And.intro ?_ ?_ <;> with_reducible rfl) | (go_simp; with_reducible rfl))
    focus exact Calls.mono (P1.out wg) (fun e w2 ⟨he, hb2⟩ => ⟨_, he, rfl, hb2⟩)
    simp only [Act.put, Known.val, List.setIfInBounds_toArray, List.set_cons_zero, List.set_cons_succ]
    refine Grow.val (v := ?_) rfl rfl (fun wg hbg hdg => ?_) ?_
    rotate_left
    focus ((obtain ⟨lg0, cg0, fg0⟩ := B0.out.later hbg); (obtain ⟨lg1, cg1, fg1⟩ := B1.out.later hbg); (obtain ⟨lg2, cg2, fg2⟩ := B2.out.later hbg); clear hbg hdg; first | (go_simp; done) | (go_simp; with_reducible rfl))
    simp only [Act.put, List.setIfInBounds_toArray, List.set_cons_zero, List.set_cons_succ]
    refine Grow.val (v := ?_) rfl rfl (fun wg hbg hdg => ?_) ?_
    rotate_left
    focus ((obtain ⟨lg0, cg0, fg0⟩ := B0.out.later hbg); (obtain ⟨lg1, cg1, fg1⟩ := B1.out.later hbg); (obtain ⟨lg2, cg2, fg2⟩ := B2.out.later hbg); clear hbg hdg; first | (go_simp; done) | (go_simp; with_reducible rfl))
    simp only [Act.put, List.setIfInBounds_toArray, List.set_cons_zero, List.set_cons_succ]
    refine Grow.call (f := ?_) (args := ?_) rfl (fun wg => ?_) (fun wg hbg hdg => ?_) ?_
    rotate_left 2
    focus (first | (go_simp; done) | (go_simp; refine And.intro ?_ ?_ <;> with_reducible rfl) | (go_simp; with_reducible rfl))
    focus exact Calls.mono (widen a.hi HA.out.2) (fun e w2 ⟨he, hb2⟩ => ⟨_, he, rfl, hb2⟩)
    simp only [Act.put, Known.val, List.setIfInBounds_toArray, List.set_cons_zero, List.set_cons_succ]
    refine Grow.val (v := ?_) rfl rfl (fun wg hbg hdg => ?_) ?_
    rotate_left
    focus ((obtain ⟨lg0, cg0, fg0⟩ := B0.out.later hbg); (obtain ⟨lg1, cg1, fg1⟩ := B1.out.later hbg); (obtain ⟨lg2, cg2, fg2⟩ := B2.out.later hbg); clear hbg hdg; first | (go_simp; done) | (go_simp; with_reducible rfl))
    simp only [Act.put, List.setIfInBounds_toArray, List.set_cons_zero, List.set_cons_succ]
    refine Grow.val (v := ?_) rfl rfl (fun wg hbg hdg => ?_) ?_
    rotate_left
    focus ((obtain ⟨lg0, cg0, fg0⟩ := B0.out.later hbg); (obtain ⟨lg1, cg1, fg1⟩ := B1.out.later hbg); (obtain ⟨lg2, cg2, fg2⟩ := B2.out.later hbg); clear hbg hdg; first | (go_simp; done) | (go_simp; with_reducible rfl))
    simp only [Act.put, List.setIfInBounds_toArray, List.set_cons_zero, List.set_cons_succ]
    refine Grow.call (f := ?_) (args := ?_) rfl (fun wg => ?_) (fun wg hbg hdg => ?_) ?_
    rotate_left 2
    focus (first | (go_simp; done) | (go_simp; refine And.intro ?_ ?_ <;> with_reducible rfl) | (go_simp; with_reducible rfl))
    focus exact Calls.mono (widen b.hi HB.out.2) (fun e w2 ⟨he, hb2⟩ => ⟨_, he, rfl, hb2⟩)
    simp only [Act.put, Known.val, List.setIfInBounds_toArray, List.set_cons_zero, List.set_cons_succ]
    refine Grow.call (f := ?_) (args := ?_) rfl (fun wg => ?_) (fun wg hbg hdg => ?_) ?_
    rotate_left 2
    focus (first | (go_simp; done) | (go_simp; refine And.intro ?_ ?_ <;> with_reducible rfl) | (go_simp; with_reducible rfl))
    focus exact Calls.mono (P2.out wg) (fun e w2 ⟨he, hb2⟩ => ⟨_, he, rfl, hb2⟩)
    simp only [Act.put, Known.val, List.setIfInBounds_toArray, List.set_cons_zero, List.set_cons_succ]
    refine Grow.call (f := ?_) (args := ?_) rfl (fun wg => ?_) (fun wg hbg hdg => ?_) ?_
    rotate_left 2
    focus (first | (go_simp; done) | (go_simp; refine And.intro ?_ ?_ <;> with_reducible rfl) | (go_simp; with_reducible rfl))
    focus exact Calls.mono (HM.out ▸ F1.out wg) (fun e w2 ⟨he, hb2⟩ => ⟨_, he, rfl, hb2⟩)
    simp only [Act.put, Known.val, List.setIfInBounds_toArray, List.set_cons_zero, List.set_cons_succ]
    intro wg hb hf hap
    clear hap
    clear lB0 cB0 fB0 lB1 cB1 fB1 lB2 cB2 fB2
    replace B0 := Lib.hid (B0.out.later hb)
    replace B1 := Lib.hid (B1.out.later hb)
    replace B2 := Lib.hid (B2.out.later hb)
    replace HW := Lib.hid (HW.out.trans (hb.mono HW.out.size))
    clear hb
    obtain ⟨lB0, cB0, fB0⟩ := B0.out
    obtain ⟨lB1, cB1, fB1⟩ := B1.out
    obtain ⟨lB2, cB2, fB2⟩ := B2.out
    unfold Sp.val
    go_wp2
    exact bodyPost_ret (v := .agg #[.int .i64 (addS a b).lo, .int .i64 (addS a b).hi]) (by simp [results, Try.results10, go_sem, *]) rfl ⟨rfl, (HW.out.setCell (by simp; omega) _).setCell (by simp; omega) _⟩
def subS (a b : Sp) : Sp := if a.none || b.none then ⟨0, -1⟩ else
  foldR (whi a.lo - whi b.hi + (wlo a.lo - wlo b.hi) / 18446744073709551616) ((wlo a.lo - wlo b.hi) % 18446744073709551616) (whi a.hi - whi b.lo + (wlo a.hi - wlo b.lo) / 18446744073709551616) ((wlo a.hi - wlo b.lo) % 18446744073709551616)

set_option maxHeartbeats 1600000 in
theorem spanSub {w : World} (a b : Sp) (ha : a.ok) (hb : b.ok) : Calls Try.prog 12 #[a.val, b.val] w fun e w' => e = .returned (subS a b).val ∧ Below w.heap.size w w' := by
  have HA := Lib.hid ha
  have HB := Lib.hid hb
  clear ha hb
  have HE := Lib.hid (show [a, b].any Sp.none = (a.none || b.none) by simp)
  unfold Sp.val
  go_enter Try.func12, Try.ntmps12
  go_upto_region 1 with (fail)
  have B0 : Hid (Box (((w.alloc (.cells #[.int .i64 a.lo, .int .i64 a.hi] 23)).alloc (.cells #[.int .i64 b.lo, .int .i64 b.hi] 23)).alloc (.cells #[.int .i64 0, .int .i64 0] 23)) (w.heap.size) #[.int .i64 a.lo, .int .i64 a.hi]) := Lib.hid (by simpa using (((Box.new w #[.int .i64 a.lo, .int .i64 a.hi] 23).alloc _).alloc _))
  have B1 : Hid (Box (((w.alloc (.cells #[.int .i64 a.lo, .int .i64 a.hi] 23)).alloc (.cells #[.int .i64 b.lo, .int .i64 b.hi] 23)).alloc (.cells #[.int .i64 0, .int .i64 0] 23)) (w.heap.size + 1) #[.int .i64 b.lo, .int .i64 b.hi]) := Lib.hid (by simpa using ((Box.new (w.alloc (.cells #[.int .i64 a.lo, .int .i64 a.hi] 23)) #[.int .i64 b.lo, .int .i64 b.hi] 23).alloc _))
  have B2 : Hid (Box (((w.alloc (.cells #[.int .i64 a.lo, .int .i64 a.hi] 23)).alloc (.cells #[.int .i64 b.lo, .int .i64 b.hi] 23)).alloc (.cells #[.int .i64 0, .int .i64 0] 23)) (w.heap.size + 1 + 1) #[.int .i64 0, .int .i64 0]) := Lib.hid (by simpa using (Box.new ((w.alloc (.cells #[.int .i64 a.lo, .int .i64 a.hi] 23)).alloc (.cells #[.int .i64 b.lo, .int .i64 b.hi] 23)) #[.int .i64 0, .int .i64 0] 23))
  have HW : Hid (Below w.heap.size w (((w.alloc (.cells #[.int .i64 a.lo, .int .i64 a.hi] 23)).alloc (.cells #[.int .i64 b.lo, .int .i64 b.hi] 23)).alloc (.cells #[.int .i64 0, .int .i64 0] 23))) := Lib.hid ((((Below.refl _ _).alloc (Nat.le_refl _) _).alloc (by simp) _).alloc (by simp; omega) _)
  generalize (((w.alloc (.cells #[.int .i64 a.lo, .int .i64 a.hi] 23)).alloc (.cells #[.int .i64 b.lo, .int .i64 b.hi] 23)).alloc (.cells #[.int .i64 0, .int .i64 0] 23)) = wv at *
  obtain ⟨lB0, cB0, fB0⟩ := B0.out
  obtain ⟨lB1, cB1, fB1⟩ := B1.out
  obtain ⟨lB2, cB2, fB2⟩ := B2.out
  go_wp2_with fail
  refine (empty (spans_two HA.out HB.out)).mono ?_
  rintro e w4 ⟨rfl, hb4⟩
  replace hb4 := below_alloc hb4
  clear lB0 cB0 fB0 lB1 cB1 fB1 lB2 cB2 fB2
  replace B0 := Lib.hid (B0.out.later hb4)
  replace B1 := Lib.hid (B1.out.later hb4)
  replace B2 := Lib.hid (B2.out.later hb4)
  replace HW := Lib.hid (HW.out.trans (hb4.mono HW.out.size))
  clear hb4
  obtain ⟨lB0, cB0, fB0⟩ := B0.out
  obtain ⟨lB1, cB1, fB1⟩ := B1.out
  obtain ⟨lB2, cB2, fB2⟩ := B2.out
  rw [HE.out]
  cases hem : (a.none || b.none)
  case true =>
    have HM := Lib.hid (show subS a b = ⟨0, -1⟩ by unfold subS; rw [hem]; rfl)
    clear hem
    go_wp2_with fail
    refine none_any.mono ?_
    rintro e w9 ⟨rfl, hb9⟩
    clear lB0 cB0 fB0 lB1 cB1 fB1 lB2 cB2 fB2
    replace B0 := Lib.hid (B0.out.later hb9)
    replace B1 := Lib.hid (B1.out.later hb9)
    replace B2 := Lib.hid (B2.out.later hb9)
    replace HW := Lib.hid (HW.out.trans (hb9.mono HW.out.size))
    clear hb9
    obtain ⟨lB0, cB0, fB0⟩ := B0.out
    obtain ⟨lB1, cB1, fB1⟩ := B1.out
    obtain ⟨lB2, cB2, fB2⟩ := B2.out
    unfold Sp.val
    go_wp2
    exact bodyPost_ret (v := .agg #[.int .i64 0, .int .i64 (-1)]) (by simp [results, Try.results12, go_sem, *]) rfl ⟨by rw [HM.out], (HW.out.setCell (by simp; omega) _).setCell (by simp; omega) _⟩
  case false =>
    have HM := Lib.hid (show subS a b = foldR (whi a.lo - whi b.hi + (wlo a.lo - wlo b.hi) / 18446744073709551616) ((wlo a.lo - wlo b.hi) % 18446744073709551616) (whi a.hi - whi b.lo + (wlo a.hi - wlo b.lo) / 18446744073709551616) ((wlo a.hi - wlo b.lo) % 18446744073709551616) by unfold subS; rw [hem]; rfl)
    clear hem
    have A1 := HA.out.1
    have A2 := HA.out.2
    have A3 := HB.out.1
    have A4 := HB.out.2
    unfold In64 at A1 A2 A3 A4
    have P1 := Lib.hid (fun (w : World) => minus (w := w) (whi a.lo) (wlo a.lo) (whi b.hi) (wlo b.hi) (by unfold wlo; omega) (by unfold wlo; omega) (by unfold wlo; omega) (by unfold wlo; omega) (by unfold whi; omega) (by unfold whi; omega) (by unfold whi; omega) (by unfold whi; omega))
    have P2 := Lib.hid (fun (w : World) => minus (w := w) (whi a.hi) (wlo a.hi) (whi b.lo) (wlo b.lo) (by unfold wlo; omega) (by unfold wlo; omega) (by unfold wlo; omega) (by unfold wlo; omega) (by unfold whi; omega) (by unfold whi; omega) (by unfold whi; omega) (by unfold whi; omega))
    have F1 := Lib.hid (fun (w : World) => fold (w := w) (whi a.lo - whi b.hi + (wlo a.lo - wlo b.hi) / 18446744073709551616) ((wlo a.lo - wlo b.hi) % 18446744073709551616) (whi a.hi - whi b.lo + (wlo a.hi - wlo b.lo) / 18446744073709551616) ((wlo a.hi - wlo b.lo) % 18446744073709551616)
      (by omega) (by omega) (by omega) (by omega) (by unfold whi wlo; omega) (by unfold whi wlo; omega) (by unfold whi wlo; omega) (by unfold whi wlo; omega))
    clear A1 A2 A3 A4
    go_wp2_with fail
    refine wp_region_grow 15 (fun k => match k with | 2 => .const (wideV (whi a.lo) (wlo a.lo)) | 5 => .const (wideV (whi b.hi) (wlo b.hi)) | 6 => .const (wideV (whi a.lo - whi b.hi + (wlo a.lo - wlo b.hi) / 18446744073709551616) ((wlo a.lo - wlo b.hi) % 18446744073709551616)) | 9 => .const (wideV (whi a.hi) (wlo a.hi)) | 12 => .const (wideV (whi b.lo) (wlo b.lo)) | 13 => .const (wideV (whi a.hi - whi b.lo + (wlo a.hi - wlo b.lo) / 18446744073709551616) ((wlo a.hi - wlo b.lo) % 18446744073709551616)) | 14 => .const ((subS a b).val) | _ => .plain) (by kernel_rfl) (by kernel_rfl) ?_ (fun ν => ?_)
    · (intro k; (try dsimp only); split <;> first | exact True.intro | (intro u w1 w2 hu hb; exact hu.below hb))
    simp only [List.take_succ_cons, List.take_zero, List.drop_succ_cons, List.drop_zero]
    refine Grow.val (v := ?_) rfl rfl (fun wg hbg hdg => ?_) ?_
    rotate_left
    focus ((obtain ⟨lg0, cg0, fg0⟩ := B0.out.later hbg); (obtain ⟨lg1, cg1, fg1⟩ := B1.out.later hbg); (obtain ⟨lg2, cg2, fg2⟩ := B2.out.later hbg); clear hbg hdg; first | (go_simp; done) | (go_simp; with_reducible rfl))
    simp only [Act.put, List.setIfInBounds_toArray, List.set_cons_zero, List.set_cons_succ]
    refine Grow.val (v := ?_) rfl rfl (fun wg hbg hdg => ?_) ?_
    rotate_left
    focus ((obtain ⟨lg0, cg0, fg0⟩ := B0.out.later hbg); (obtain ⟨lg1, cg1, fg1⟩ := B1.out.later hbg); (obtain ⟨lg2, cg2, fg2⟩ := B2.out.later hbg); clear hbg hdg; first | (go_simp; done) | (go_simp; with_reducible rfl))
    simp only [Act.put, List.setIfInBounds_toArray, List.set_cons_zero, List.set_cons_succ]
    refine Grow.call (f := ?_) (args := ?_) rfl (fun wg => ?_) (fun wg hbg hdg => ?_) ?_
    rotate_left 2
    focus (first | (go_simp; done) | (go_simp; refine And.intro ?_ ?_ <;> with_reducible rfl) | (go_simp; with_reducible rfl))
    focus exact Calls.mono (widen a.lo HA.out.1) (fun e w2 ⟨he, hb2⟩ => ⟨_, he, rfl, hb2⟩)
    simp only [Act.put, Known.val, List.setIfInBounds_toArray, List.set_cons_zero, List.set_cons_succ]
    refine Grow.val (v := ?_) rfl rfl (fun wg hbg hdg => ?_) ?_
    rotate_left
    focus ((obtain ⟨lg0, cg0, fg0⟩ := B0.out.later hbg); (obtain ⟨lg1, cg1, fg1⟩ := B1.out.later hbg); (obtain ⟨lg2, cg2, fg2⟩ := B2.out.later hbg); clear hbg hdg; first | (go_simp; done) | (go_simp; with_reducible rfl))
    simp only [Act.put, List.setIfInBounds_toArray, List.set_cons_zero, List.set_cons_succ]
    refine Grow.val (v := ?_) rfl rfl (fun wg hbg hdg => ?_) ?_
    rotate_left
    focus ((obtain ⟨lg0, cg0, fg0⟩ := B0.out.later hbg); (obtain ⟨lg1, cg1, fg1⟩ := B1.out.later hbg); (obtain ⟨lg2, cg2, fg2⟩ := B2.out.later hbg); clear hbg hdg; first | (go_simp; done) | (go_simp; with_reducible rfl))
    simp only [Act.put, List.setIfInBounds_toArray, List.set_cons_zero, List.set_cons_succ]
    refine Grow.call (f := ?_) (args := ?_) rfl (fun wg => ?_) (fun wg hbg hdg => ?_) ?_
    rotate_left 2
    focus (first | (go_simp; done) | (go_simp; refine And.intro ?_ ?_ <;> with_reducible rfl) | (go_simp; with_reducible rfl))
    focus exact Calls.mono (widen b.hi HB.out.2) (fun e w2 ⟨he, hb2⟩ => ⟨_, he, rfl, hb2⟩)
    simp only [Act.put, Known.val, List.setIfInBounds_toArray, List.set_cons_zero, List.set_cons_succ]
    refine Grow.call (f := ?_) (args := ?_) rfl (fun wg => ?_) (fun wg hbg hdg => ?_) ?_
    rotate_left 2
    focus (first | (go_simp; done) | (go_simp; refine And.intro ?_ ?_ <;> with_reducible rfl) | (go_simp; with_reducible rfl))
    focus exact Calls.mono (P1.out wg) (fun e w2 ⟨he, hb2⟩ => ⟨_, he, rfl, hb2⟩)
    simp only [Act.put, Known.val, List.setIfInBounds_toArray, List.set_cons_zero, List.set_cons_succ]
    refine Grow.val (v := ?_) rfl rfl (fun wg hbg hdg => ?_) ?_
    rotate_left
    focus ((obtain ⟨lg0, cg0, fg0⟩ := B0.out.later hbg); (obtain ⟨lg1, cg1, fg1⟩ := B1.out.later hbg); (obtain ⟨lg2, cg2, fg2⟩ := B2.out.later hbg); clear hbg hdg; first | (go_simp; done) | (go_simp; with_reducible rfl))
    simp only [Act.put, List.setIfInBounds_toArray, List.set_cons_zero, List.set_cons_succ]
    refine Grow.val (v := ?_) rfl rfl (fun wg hbg hdg => ?_) ?_
    rotate_left
    focus ((obtain ⟨lg0, cg0, fg0⟩ := B0.out.later hbg); (obtain ⟨lg1, cg1, fg1⟩ := B1.out.later hbg); (obtain ⟨lg2, cg2, fg2⟩ := B2.out.later hbg); clear hbg hdg; first | (go_simp; done) | (go_simp; with_reducible rfl))
    simp only [Act.put, List.setIfInBounds_toArray, List.set_cons_zero, List.set_cons_succ]
    refine Grow.call (f := ?_) (args := ?_) rfl (fun wg => ?_) (fun wg hbg hdg => ?_) ?_
    rotate_left 2
    focus (first | (go_simp; done) | (go_simp; refine And.intro ?_ ?_ <;> with_reducible rfl) | (go_simp; with_reducible rfl))
    focus exact Calls.mono (widen a.hi HA.out.2) (fun e w2 ⟨he, hb2⟩ => ⟨_, he, rfl, hb2⟩)
    simp only [Act.put, Known.val, List.setIfInBounds_toArray, List.set_cons_zero, List.set_cons_succ]
    refine Grow.val (v := ?_) rfl rfl (fun wg hbg hdg => ?_) ?_
    rotate_left
    focus ((obtain ⟨lg0, cg0, fg0⟩ := B0.out.later hbg); (obtain ⟨lg1, cg1, fg1⟩ := B1.out.later hbg); (obtain ⟨lg2, cg2, fg2⟩ := B2.out.later hbg); clear hbg hdg; first | (go_simp; done) | (go_simp; with_reducible rfl))
    simp only [Act.put, List.setIfInBounds_toArray, List.set_cons_zero, List.set_cons_succ]
    refine Grow.val (v := ?_) rfl rfl (fun wg hbg hdg => ?_) ?_
    rotate_left
    focus ((obtain ⟨lg0, cg0, fg0⟩ := B0.out.later hbg); (obtain ⟨lg1, cg1, fg1⟩ := B1.out.later hbg); (obtain ⟨lg2, cg2, fg2⟩ := B2.out.later hbg); clear hbg hdg; first | (go_simp; done) | (go_simp; with_reducible rfl))
    simp only [Act.put, List.setIfInBounds_toArray, List.set_cons_zero, List.set_cons_succ]
    refine Grow.call (f := ?_) (args := ?_) rfl (fun wg => ?_) (fun wg hbg hdg => ?_) ?_
    rotate_left 2
    focus (first | (go_simp; done) | (go_simp; refine And.intro ?_ ?_ <;> with_reducible rfl) | (go_simp; with_reducible rfl))
    focus exact Calls.mono (widen b.lo HB.out.1) (fun e w2 ⟨he, hb2⟩ => ⟨_, he, rfl, hb2⟩)
    simp only [Act.put, Known.val, List.setIfInBounds_toArray, List.set_cons_zero, List.set_cons_succ]
    refine Grow.call (f := ?_) (args := ?_) rfl (fun wg => ?_) (fun wg hbg hdg => ?_) ?_
    rotate_left 2
    focus (first | (go_simp; done) | (go_simp; refine And.intro ?_ ?_ <;> with_reducible rfl) | (go_simp; with_reducible rfl))
    focus exact Calls.mono (P2.out wg) (fun e w2 ⟨he, hb2⟩ => ⟨_, he, rfl, hb2⟩)
    simp only [Act.put, Known.val, List.setIfInBounds_toArray, List.set_cons_zero, List.set_cons_succ]
    refine Grow.call (f := ?_) (args := ?_) rfl (fun wg => ?_) (fun wg hbg hdg => ?_) ?_
    rotate_left 2
    focus (first | (go_simp; done) | (go_simp; refine And.intro ?_ ?_ <;> with_reducible rfl) | (go_simp; with_reducible rfl))
    focus exact Calls.mono (HM.out ▸ F1.out wg) (fun e w2 ⟨he, hb2⟩ => ⟨_, he, rfl, hb2⟩)
    simp only [Act.put, Known.val, List.setIfInBounds_toArray, List.set_cons_zero, List.set_cons_succ]
    intro wg hb hf hap
    clear hap
    clear lB0 cB0 fB0 lB1 cB1 fB1 lB2 cB2 fB2
    replace B0 := Lib.hid (B0.out.later hb)
    replace B1 := Lib.hid (B1.out.later hb)
    replace B2 := Lib.hid (B2.out.later hb)
    replace HW := Lib.hid (HW.out.trans (hb.mono HW.out.size))
    clear hb
    obtain ⟨lB0, cB0, fB0⟩ := B0.out
    obtain ⟨lB1, cB1, fB1⟩ := B1.out
    obtain ⟨lB2, cB2, fB2⟩ := B2.out
    unfold Sp.val
    go_wp2
    exact bodyPost_ret (v := .agg #[.int .i64 (subS a b).lo, .int .i64 (subS a b).hi]) (by simp [results, Try.results12, go_sem, *]) rfl ⟨rfl, (HW.out.setCell (by simp; omega) _).setCell (by simp; omega) _⟩
end Go.Proofs.Ytppnmdplojemcaa
