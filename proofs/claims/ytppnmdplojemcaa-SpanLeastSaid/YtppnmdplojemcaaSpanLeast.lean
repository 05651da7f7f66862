/- The law of least spans: its walk. -/
import Derived.Test.YtppnmdplojemcaaSpanIn
namespace Go.Proofs.Ytppnmdplojemcaa
set_option linter.unusedSimpArgs false
set_option linter.unusedVariables false
open Go.RowKit

set_option maxHeartbeats 12800000 in
theorem walkLeast {w : World} (a b : Sp) (ha : a.ok) (hb : b.ok) : Calls Try.prog 4 #[a.val, b.val] w fun e w' => e = .returned (.bool true) ∧ Below w.heap.size w w' := by
  have C1 := Lib.hid (fun w : World => addS_eq a b ha hb ▸ spanAdd (w := w) a b ha hb)
  have C3 := Lib.hid (fun w : World => subS_eq a b ha hb ▸ spanSub (w := w) a b ha hb)
  have HQ1 := Lib.hid (addQ_ok a b)
  have HQ2 := Lib.hid (subQ_ok a b)
  clear ha hb
  unfold Sp.val at C1 C3 ⊢
  have E1 : Hid ((addQ a b = ⟨-9223372036854775808, 9223372036854775807⟩) ∨ (addQ a b = ⟨wrap64 (a.lo + b.lo), wrap64 (a.hi + b.hi)⟩) ∨ a.none = true ∨ b.none = true) := Lib.hid (by
    unfold addQ; cases a.none <;> cases b.none <;> simp only [Bool.or_true, Bool.or_false, Bool.true_or, Bool.false_or, Bool.false_eq_true, if_false, if_true, true_or, or_true, or_false]; split <;> simp)
  have E2 : Hid ((subQ a b = ⟨-9223372036854775808, 9223372036854775807⟩) ∨ (subQ a b = ⟨wrap64 (a.lo - b.hi), wrap64 (a.hi - b.lo)⟩) ∨ a.none = true ∨ b.none = true) := Lib.hid (by
    unfold subQ; cases a.none <;> cases b.none <;> simp only [Bool.or_true, Bool.or_false, Bool.true_or, Bool.false_or, Bool.false_eq_true, if_false, if_true, true_or, or_true, or_false]; split <;> simp)
  go_enter Try.func4, Try.ntmps4
  go_upto_region 1 with (fail)
  have B0 : Hid (Box ((w.alloc (.cells #[.int .i64 a.lo, .int .i64 a.hi] 23)).alloc (.cells #[.int .i64 b.lo, .int .i64 b.hi] 23)) (w.heap.size) #[.int .i64 a.lo, .int .i64 a.hi]) := Lib.hid (by simpa using ((Box.new w #[.int .i64 a.lo, .int .i64 a.hi] 23).alloc _))
  have B1 : Hid (Box ((w.alloc (.cells #[.int .i64 a.lo, .int .i64 a.hi] 23)).alloc (.cells #[.int .i64 b.lo, .int .i64 b.hi] 23)) (w.heap.size + 1) #[.int .i64 b.lo, .int .i64 b.hi]) := Lib.hid (by simpa using (Box.new (w.alloc (.cells #[.int .i64 a.lo, .int .i64 a.hi] 23)) #[.int .i64 b.lo, .int .i64 b.hi] 23))
  have HW : Hid (Below w.heap.size w ((w.alloc (.cells #[.int .i64 a.lo, .int .i64 a.hi] 23)).alloc (.cells #[.int .i64 b.lo, .int .i64 b.hi] 23))) := Lib.hid (((Below.refl _ _).alloc (Nat.le_refl _) _).alloc (by simp) _)
  generalize ((w.alloc (.cells #[.int .i64 a.lo, .int .i64 a.hi] 23)).alloc (.cells #[.int .i64 b.lo, .int .i64 b.hi] 23)) = wv at *
  obtain ⟨lB0, cB0, fB0⟩ := B0.out
  obtain ⟨lB1, cB1, fB1⟩ := B1.out
  go_wp2_with fail
  refine awakeSpan.mono ?_
  rintro e w4 ⟨rfl, hb4⟩
  clear lB0 cB0 fB0 lB1 cB1 fB1
  replace B0 := Lib.hid (B0.out.later hb4)
  replace B1 := Lib.hid (B1.out.later hb4)
  replace HW := Lib.hid (HW.out.trans (hb4.mono HW.out.size))
  clear hb4
  obtain ⟨lB0, cB0, fB0⟩ := B0.out
  obtain ⟨lB1, cB1, fB1⟩ := B1.out
  by_cases hea : a.hi < a.lo
  · go_wp2_with fail
    refine awakeSpan.mono ?_
    rintro e w5 ⟨rfl, hb5⟩
    clear lB0 cB0 fB0 lB1 cB1 fB1
    replace B0 := Lib.hid (B0.out.later hb5)
    replace B1 := Lib.hid (B1.out.later hb5)
    replace HW := Lib.hid (HW.out.trans (hb5.mono HW.out.size))
    clear hb5
    obtain ⟨lB0, cB0, fB0⟩ := B0.out
    obtain ⟨lB1, cB1, fB1⟩ := B1.out
    go_wp2
    go_ret
    exact ⟨rfl, HW.out⟩
  · by_cases heb : b.hi < b.lo
    · go_wp2_with fail
      refine awakeSpan.mono ?_
      rintro e w5 ⟨rfl, hb5⟩
      clear lB0 cB0 fB0 lB1 cB1 fB1
      replace B0 := Lib.hid (B0.out.later hb5)
      replace B1 := Lib.hid (B1.out.later hb5)
      replace HW := Lib.hid (HW.out.trans (hb5.mono HW.out.size))
      clear hb5
      obtain ⟨lB0, cB0, fB0⟩ := B0.out
      obtain ⟨lB1, cB1, fB1⟩ := B1.out
      go_wp2
      go_ret
      exact ⟨rfl, HW.out⟩
    · have F1 : Hid ((addQ a b = ⟨-9223372036854775808, 9223372036854775807⟩) ∨ (addQ a b = ⟨wrap64 (a.lo + b.lo), wrap64 (a.hi + b.hi)⟩)) := Lib.hid (by
        rcases E1.out with h | h | h | h
        · exact .inl h
        · exact .inr h
        · exact absurd ((Sp.none_iff a).1 h) hea
        · exact absurd ((Sp.none_iff b).1 h) heb)
      have F2 : Hid ((subQ a b = ⟨-9223372036854775808, 9223372036854775807⟩) ∨ (subQ a b = ⟨wrap64 (a.lo - b.hi), wrap64 (a.hi - b.lo)⟩)) := Lib.hid (by
        rcases E2.out with h | h | h | h
        · exact .inl h
        · exact .inr h
        · exact absurd ((Sp.none_iff a).1 h) hea
        · exact absurd ((Sp.none_iff b).1 h) heb)
      clear E1 E2
      go_wp2_with fail

      refine wp_region_grow 8 (fun k => match k with | 2 => .const (.agg #[.int .i64 (addQ a b).lo, .int .i64 (addQ a b).hi]) | 5 => .const (.agg #[.int .i64 (subQ a b).lo, .int .i64 (subQ a b).hi]) | 6 => .made w4.heap.size (fun b => .pointer (some ⟨b, 0, none⟩)) #[.int .i64 0, .int .i64 0] | 7 => .made w4.heap.size (fun b => .pointer (some ⟨b, 0, none⟩)) #[.int .i64 0, .int .i64 0] | _ => .plain) (by kernel_rfl) (by kernel_rfl) ?_ (fun ν => ?_)
      · (intro k; (try dsimp only); split <;> first | exact True.intro | (intro u w1 w2 hu hb; exact hu.below hb))
      simp only [List.take_succ_cons, List.take_zero, List.drop_succ_cons, List.drop_zero]
      refine Grow.val (v := ?_) rfl rfl (fun wg hbg hdg => ?_) ?_
      rotate_left
      focus ((obtain ⟨lg0, cg0, fg0⟩ := B0.out.later hbg); (obtain ⟨lg1, cg1, fg1⟩ := B1.out.later hbg); clear hbg hdg; first | (go_simp; done) | (go_simp; with_reducible rfl))
      simp only [Act.put, List.setIfInBounds_toArray, List.set_cons_zero, List.set_cons_succ]
      refine Grow.val (v := ?_) rfl rfl (fun wg hbg hdg => ?_) ?_
      rotate_left
      focus ((obtain ⟨lg0, cg0, fg0⟩ := B0.out.later hbg); (obtain ⟨lg1, cg1, fg1⟩ := B1.out.later hbg); clear hbg hdg; first | (go_simp; done) | (go_simp; with_reducible rfl))
      simp only [Act.put, List.setIfInBounds_toArray, List.set_cons_zero, List.set_cons_succ]
      refine Grow.call (f := ?_) (args := ?_) rfl (fun wg => ?_) (fun wg hbg hdg => ?_) ?_
      rotate_left 2
      focus (first | (go_simp; done) | (go_simp; refine And.intro ?_ ?_ <;> with_reducible rfl) | (go_simp; with_reducible rfl))
      focus exact Calls.mono (C1.out wg) (fun e w2 ⟨he, hb2⟩ => ⟨_, he, rfl, hb2⟩)
      simp only [Act.put, Known.val, List.setIfInBounds_toArray, List.set_cons_zero, List.set_cons_succ]
      refine Grow.val (v := ?_) rfl rfl (fun wg hbg hdg => ?_) ?_
      rotate_left
      focus ((obtain ⟨lg0, cg0, fg0⟩ := B0.out.later hbg); (obtain ⟨lg1, cg1, fg1⟩ := B1.out.later hbg); clear hbg hdg; first | (go_simp; done) | (go_simp; with_reducible rfl))
      simp only [Act.put, List.setIfInBounds_toArray, List.set_cons_zero, List.set_cons_succ]
      refine Grow.val (v := ?_) rfl rfl (fun wg hbg hdg => ?_) ?_
      rotate_left
      focus ((obtain ⟨lg0, cg0, fg0⟩ := B0.out.later hbg); (obtain ⟨lg1, cg1, fg1⟩ := B1.out.later hbg); clear hbg hdg; first | (go_simp; done) | (go_simp; with_reducible rfl))
      simp only [Act.put, List.setIfInBounds_toArray, List.set_cons_zero, List.set_cons_succ]
      refine Grow.call (f := ?_) (args := ?_) rfl (fun wg => ?_) (fun wg hbg hdg => ?_) ?_
      rotate_left 2
      focus (first | (go_simp; done) | (go_simp; refine And.intro ?_ ?_ <;> with_reducible rfl) | (go_simp; with_reducible rfl))
      focus exact Calls.mono (C3.out wg) (fun e w2 ⟨he, hb2⟩ => ⟨_, he, rfl, hb2⟩)
      simp only [Act.put, Known.val, List.setIfInBounds_toArray, List.set_cons_zero, List.set_cons_succ]
      refine Grow.made (T := ?_) rfl rfl (fun wg hbg hdg => ?_) ?_
      rotate_left
      focus ((obtain ⟨lg0, cg0, fg0⟩ := B0.out.later hbg); (obtain ⟨lg1, cg1, fg1⟩ := B1.out.later hbg); clear hbg hdg; first | (go_simp; done) | (go_simp; with_reducible rfl))
      simp only [Act.put, Known.val, List.setIfInBounds_toArray, List.set_cons_zero, List.set_cons_succ]
      refine Grow.made (T := ?_) rfl rfl (fun wg hbg hdg => ?_) ?_
      rotate_left
      focus ((obtain ⟨lg0, cg0, fg0⟩ := B0.out.later hbg); (obtain ⟨lg1, cg1, fg1⟩ := B1.out.later hbg); clear hbg hdg; first | (go_simp; done) | (go_simp; with_reducible rfl))
      simp only [Act.put, Known.val, List.setIfInBounds_toArray, List.set_cons_zero, List.set_cons_succ]
      intro wg hb hf hap
      obtain ⟨bB5, hνB5, hBB5, hXB5⟩ := hf 6 (by omega)
      have nB5B0 : bB5 ≠ w.heap.size := fun e => by have := lB0; omega
      have nB0B5 : w.heap.size ≠ bB5 := fun e => nB5B0 e.symm
      have nB5B1 : bB5 ≠ w.heap.size + 1 := fun e => by have := lB1; omega
      have nB1B5 : w.heap.size + 1 ≠ bB5 := fun e => nB5B1 e.symm
      obtain ⟨bB6, hνB6, hBB6, hXB6⟩ := hf 7 (by omega)
      have nB6B0 : bB6 ≠ w.heap.size := fun e => by have := lB0; omega
      have nB0B6 : w.heap.size ≠ bB6 := fun e => nB6B0 e.symm
      have nB6B1 : bB6 ≠ w.heap.size + 1 := fun e => by have := lB1; omega
      have nB1B6 : w.heap.size + 1 ≠ bB6 := fun e => nB6B1 e.symm
      have nB5B6 : bB5 ≠ bB6 := fun e => hap 6 7 (by omega) (by omega) (by omega) rfl rfl (by rw [hνB5, hνB6, e])
      have nB6B5 : bB6 ≠ bB5 := fun e => hap 7 6 (by omega) (by omega) (by omega) rfl rfl (by rw [hνB6, hνB5, e])
      simp only [hνB5, hνB6]
      clear hνB5 hνB6
      clear hap
      have gB5 := Nat.le_trans HW.out.size hBB5
      clear hBB5
      have gB6 := Nat.le_trans HW.out.size hBB6
      clear hBB6
      clear lB0 cB0 fB0 lB1 cB1 fB1
      replace B0 := Lib.hid (B0.out.later hb)
      replace B1 := Lib.hid (B1.out.later hb)
      replace HW := Lib.hid (HW.out.trans (hb.mono HW.out.size))
      clear hb
      have B5 := Lib.hid hXB5
      clear hXB5
      have B6 := Lib.hid hXB6
      clear hXB6
      obtain ⟨lB0, cB0, fB0⟩ := B0.out
      obtain ⟨lB1, cB1, fB1⟩ := B1.out
      obtain ⟨lB5, cB5, fB5⟩ := B5.out
      obtain ⟨lB6, cB6, fB6⟩ := B6.out
      clear hf
      generalize addQ a b = p at *
      generalize subQ a b = q at *
      clear C1 C3 HQ1 HQ2
      obtain ⟨p1, p2⟩ := p
      obtain ⟨q1, q2⟩ := q
      go_upto_region 5 with (fail)
      have nB7B0 : wg.heap.size ≠ w.heap.size := fun e => by have := lB0; omega
      have nB0B7 : w.heap.size ≠ wg.heap.size := fun e => nB7B0 e.symm
      have nB7B1 : wg.heap.size ≠ w.heap.size + 1 := fun e => by have := lB1; omega
      have nB1B7 : w.heap.size + 1 ≠ wg.heap.size := fun e => nB7B1 e.symm
      have nB7B5 : wg.heap.size ≠ bB5 := fun e => by have := lB5; omega
      have nB5B7 : bB5 ≠ wg.heap.size := fun e => nB7B5 e.symm
      have nB7B6 : wg.heap.size ≠ bB6 := fun e => by have := lB6; omega
      have nB6B7 : bB6 ≠ wg.heap.size := fun e => nB7B6 e.symm
      have B0_ : Box (((((wg.setCell ⟨bB5, 0, none⟩ (.int .i64 p1)).setCell ⟨bB5, 1, none⟩ (.int .i64 p2)).setCell ⟨bB6, 0, none⟩ (.int .i64 q1)).setCell ⟨bB6, 1, none⟩ (.int .i64 q2)).alloc (.cells #[.int .i64 (-9223372036854775808), .int .i64 9223372036854775807] 23)) (w.heap.size) #[.int .i64 a.lo, .int .i64 a.hi] := by simpa using (((((B0.out.other (p := ⟨bB5, 0, none⟩) (.int .i64 p1) (by first | assumption | (simp; done) | omega)).other (p := ⟨bB5, 1, none⟩) (.int .i64 p2) (by first | assumption | (simp; done) | omega)).other (p := ⟨bB6, 0, none⟩) (.int .i64 q1) (by first | assumption | (simp; done) | omega)).other (p := ⟨bB6, 1, none⟩) (.int .i64 q2) (by first | assumption | (simp; done) | omega)).alloc _)
      have B1_ : Box (((((wg.setCell ⟨bB5, 0, none⟩ (.int .i64 p1)).setCell ⟨bB5, 1, none⟩ (.int .i64 p2)).setCell ⟨bB6, 0, none⟩ (.int .i64 q1)).setCell ⟨bB6, 1, none⟩ (.int .i64 q2)).alloc (.cells #[.int .i64 (-9223372036854775808), .int .i64 9223372036854775807] 23)) (w.heap.size + 1) #[.int .i64 b.lo, .int .i64 b.hi] := by simpa using (((((B1.out.other (p := ⟨bB5, 0, none⟩) (.int .i64 p1) (by first | assumption | (simp; done) | omega)).other (p := ⟨bB5, 1, none⟩) (.int .i64 p2) (by first | assumption | (simp; done) | omega)).other (p := ⟨bB6, 0, none⟩) (.int .i64 q1) (by first | assumption | (simp; done) | omega)).other (p := ⟨bB6, 1, none⟩) (.int .i64 q2) (by first | assumption | (simp; done) | omega)).alloc _)
      have B5_ : Box (((((wg.setCell ⟨bB5, 0, none⟩ (.int .i64 p1)).setCell ⟨bB5, 1, none⟩ (.int .i64 p2)).setCell ⟨bB6, 0, none⟩ (.int .i64 q1)).setCell ⟨bB6, 1, none⟩ (.int .i64 q2)).alloc (.cells #[.int .i64 (-9223372036854775808), .int .i64 9223372036854775807] 23)) (bB5) #[(.int .i64 p1), (.int .i64 p2)] := by simpa using (((((B5.out.set 0 (.int .i64 p1)).set 1 (.int .i64 p2)).other (p := ⟨bB6, 0, none⟩) (.int .i64 q1) (by first | assumption | (simp; done) | omega)).other (p := ⟨bB6, 1, none⟩) (.int .i64 q2) (by first | assumption | (simp; done) | omega)).alloc _)
      have B6_ : Box (((((wg.setCell ⟨bB5, 0, none⟩ (.int .i64 p1)).setCell ⟨bB5, 1, none⟩ (.int .i64 p2)).setCell ⟨bB6, 0, none⟩ (.int .i64 q1)).setCell ⟨bB6, 1, none⟩ (.int .i64 q2)).alloc (.cells #[.int .i64 (-9223372036854775808), .int .i64 9223372036854775807] 23)) (bB6) #[(.int .i64 q1), (.int .i64 q2)] := by simpa using (((((B6.out.other (p := ⟨bB5, 0, none⟩) (.int .i64 p1) (by first | assumption | (simp; done) | omega)).other (p := ⟨bB5, 1, none⟩) (.int .i64 p2) (by first | assumption | (simp; done) | omega)).set 0 (.int .i64 q1)).set 1 (.int .i64 q2)).alloc _)
      have B7_ : Box (((((wg.setCell ⟨bB5, 0, none⟩ (.int .i64 p1)).setCell ⟨bB5, 1, none⟩ (.int .i64 p2)).setCell ⟨bB6, 0, none⟩ (.int .i64 q1)).setCell ⟨bB6, 1, none⟩ (.int .i64 q2)).alloc (.cells #[.int .i64 (-9223372036854775808), .int .i64 9223372036854775807] 23)) (wg.heap.size) #[.int .i64 (-9223372036854775808), .int .i64 9223372036854775807] := by simpa using (Box.new ((((wg.setCell ⟨bB5, 0, none⟩ (.int .i64 p1)).setCell ⟨bB5, 1, none⟩ (.int .i64 p2)).setCell ⟨bB6, 0, none⟩ (.int .i64 q1)).setCell ⟨bB6, 1, none⟩ (.int .i64 q2)) #[.int .i64 (-9223372036854775808), .int .i64 9223372036854775807] 23)
      have HW_ : Below w.heap.size w (((((wg.setCell ⟨bB5, 0, none⟩ (.int .i64 p1)).setCell ⟨bB5, 1, none⟩ (.int .i64 p2)).setCell ⟨bB6, 0, none⟩ (.int .i64 q1)).setCell ⟨bB6, 1, none⟩ (.int .i64 q2)).alloc (.cells #[.int .i64 (-9223372036854775808), .int .i64 9223372036854775807] 23)) := (((((HW.out.setCell (p := ⟨bB5, 0, none⟩) (by first | assumption | omega | (have := HW.out.size; omega) | (simp; omega)) (.int .i64 p1)).setCell (p := ⟨bB5, 1, none⟩) (by first | assumption | omega | (have := HW.out.size; omega) | (simp; omega)) (.int .i64 p2)).setCell (p := ⟨bB6, 0, none⟩) (by first | assumption | omega | (have := HW.out.size; omega) | (simp; omega)) (.int .i64 q1)).setCell (p := ⟨bB6, 1, none⟩) (by first | assumption | omega | (have := HW.out.size; omega) | (simp; omega)) (.int .i64 q2)).alloc (by first | exact Nat.le_refl _ | exact HW.out.size | (simp only [World.size_alloc, World.size_setCell]; have := HW.out.size; omega)) _)
      clear lB0 cB0 fB0 lB1 cB1 fB1 lB5 cB5 fB5 lB6 cB6 fB6
      clear B0 B1 B5 B6 HW
      generalize (((((wg.setCell ⟨bB5, 0, none⟩ (.int .i64 p1)).setCell ⟨bB5, 1, none⟩ (.int .i64 p2)).setCell ⟨bB6, 0, none⟩ (.int .i64 q1)).setCell ⟨bB6, 1, none⟩ (.int .i64 q2)).alloc (.cells #[.int .i64 (-9223372036854775808), .int .i64 9223372036854775807] 23)) = wk at *
      have B0 := Lib.hid B0_
      clear B0_
      have B1 := Lib.hid B1_
      clear B1_
      have B5 := Lib.hid B5_
      clear B5_
      have B6 := Lib.hid B6_
      clear B6_
      have B7 := Lib.hid B7_
      clear B7_
      have HW := Lib.hid HW_
      clear HW_
      obtain ⟨lB0, cB0, fB0⟩ := B0.out
      obtain ⟨lB1, cB1, fB1⟩ := B1.out
      obtain ⟨lB5, cB5, fB5⟩ := B5.out
      obtain ⟨lB6, cB6, fB6⟩ := B6.out
      obtain ⟨lB7, cB7, fB7⟩ := B7.out
      have F1 := F1.out
      have F2 := F2.out
      simp only [Sp.mk.injEq] at F1 F2
      obtain ⟨x1, hx1⟩ : ∃ x, wrap64 (a.lo + b.lo) = x := ⟨_, rfl⟩
      obtain ⟨x2, hx2⟩ : ∃ x, wrap64 (a.hi + b.hi) = x := ⟨_, rfl⟩
      obtain ⟨y1, hy1⟩ : ∃ x, wrap64 (a.lo - b.hi) = x := ⟨_, rfl⟩
      obtain ⟨y2, hy2⟩ : ∃ x, wrap64 (a.hi - b.lo) = x := ⟨_, rfl⟩
      rw [hx1, hx2] at F1
      rw [hy1, hy2] at F2
      have G1 : (p1 = -9223372036854775808 ∧ p2 = 9223372036854775807) ∨ (p1 = x1 ∧ p2 = x2 ∧ (x1 == -9223372036854775808) = false) ∨ (p1 = x1 ∧ p2 = x2 ∧ (x1 == -9223372036854775808) = true ∧ (x2 == 9223372036854775807) = false) := by
        simp only [beq_eq_false_iff_ne, ne_eq, beq_iff_eq]
        omega
      have G2 : (q1 = -9223372036854775808 ∧ q2 = 9223372036854775807) ∨ (q1 = y1 ∧ q2 = y2 ∧ (y1 == -9223372036854775808) = false) ∨ (q1 = y1 ∧ q2 = y2 ∧ (y1 == -9223372036854775808) = true ∧ (y2 == 9223372036854775807) = false) := by
        simp only [beq_eq_false_iff_ne, ne_eq, beq_iff_eq]
        omega
      clear F1 F2 hea heb
      rcases G1 with ⟨rfl, rfl⟩ | ⟨rfl, rfl, t1⟩ | ⟨rfl, rfl, t1, t1'⟩ <;> rcases G2 with ⟨rfl, rfl⟩ | ⟨rfl, rfl, t2⟩ | ⟨rfl, rfl, t2, t2'⟩
      all_goals
        go_wp2
        go_ret
        exact ⟨rfl, HW.out⟩
end Go.Proofs.Ytppnmdplojemcaa
