/- Products of spans, the document's. -/
import Derived.Test.YtppnmdplojemcaaSpan10
namespace Go.Proofs.Ytppnmdplojemcaa
set_option linter.unusedSimpArgs false
set_option linter.unusedVariables false
open Go.RowKit

theorem step_pt_some (o : Sp) (p : Int) : (joinStep o (pt p)).none = false := by
  unfold joinStep pt Sp.none
  simp only [Int.lt_irrefl, decide_false, Bool.false_eq_true, if_false]
  split
  · simp
  · rename_i h
    simp only [decide_eq_true_eq] at h
    simp only [decide_eq_false_iff_not]
    split <;> split <;> omega
theorem prL_some (a b : Sp) (k : Nat) : (joinL (prL a b (k + 1))).none = false := by
  rw [prL_succ, joinL_snoc]; exact step_pt_some _ _
theorem joinL_two {o s : Sp} (h : o.none = false) : joinL [o, s] = joinStep o s := by
  have : joinStep ⟨0, -1⟩ o = o := by unfold joinStep; rw [h]; rfl
  simp [joinL, this]
theorem joinL_next (a b : Sp) (k : Nat) : joinL [joinL (prL a b (k + 1)), pt (pr a b (k + 1))] = joinL (prL a b (k + 1 + 1)) := by
  rw [joinL_two (prL_some a b k), prL_succ a b (k + 1), joinL_snoc]
theorem joinL_first (a b : Sp) : joinL (prL a b 1) = pt (pr a b 0) := by
  simp [prL, joinL, joinStep, Sp.none, pt]
theorem spans_box2 {W : World} {b : Nat} {s t : Sp} (h : Box W b #[.int .i64 s.lo, .int .i64 s.hi, .int .i64 t.lo, .int .i64 t.hi]) (hs : s.ok) (ht : t.ok) : Spans W (.slice (some ⟨b, 0, none⟩) 2 2) [s, t] := by
  refine ⟨Row.of_box h rfl (by omega), ?_⟩
  intro p hp
  rcases List.mem_cons.1 hp with rfl | hp
  · exact hs
  · rcases List.mem_cons.1 hp with rfl | hp
    · exact ht
    · cases hp


set_option maxHeartbeats 12800000 in
theorem refMul {w : World} (a b : Sp) (ha : a.ok) (hb : b.ok) : Calls Try.prog 19 #[a.val, b.val] w fun e w' => e = .returned (mulS a b).val ∧ Below w.heap.size w w' := by
  have HA := Lib.hid ha
  have HB := Lib.hid hb
  clear ha hb
  unfold Sp.val
  go_enter Try.func19, Try.ntmps19
  go_upto_region 1 with (fail)
  have B0 : Hid (Box (((w.alloc (.cells #[.int .i64 a.lo, .int .i64 a.hi] 23)).alloc (.cells #[.int .i64 b.lo, .int .i64 b.hi] 23)).alloc (.cells #[.int .i64 0, .int .i64 0] 23)) (w.heap.size) #[.int .i64 a.lo, .int .i64 a.hi]) := Lib.hid (by simpa using (((Box.new w #[.int .i64 a.lo, .int .i64 a.hi] 23).alloc _).alloc _))
  have B1 : Hid (Box (((w.alloc (.cells #[.int .i64 a.lo, .int .i64 a.hi] 23)).alloc (.cells #[.int .i64 b.lo, .int .i64 b.hi] 23)).alloc (.cells #[.int .i64 0, .int .i64 0] 23)) (w.heap.size + 1) #[.int .i64 b.lo, .int .i64 b.hi]) := Lib.hid (by simpa using ((Box.new (w.alloc (.cells #[.int .i64 a.lo, .int .i64 a.hi] 23)) #[.int .i64 b.lo, .int .i64 b.hi] 23).alloc _))
  have B2 : Hid (Box (((w.alloc (.cells #[.int .i64 a.lo, .int .i64 a.hi] 23)).alloc (.cells #[.int .i64 b.lo, .int .i64 b.hi] 23)).alloc (.cells #[.int .i64 0, .int .i64 0] 23)) (w.heap.size + 1 + 1) #[.int .i64 0, .int .i64 0]) := Lib.hid (by simpa using (Box.new ((w.alloc (.cells #[.int .i64 a.lo, .int .i64 a.hi] 23)).alloc (.cells #[.int .i64 b.lo, .int .i64 b.hi] 23)) #[.int .i64 0, .int .i64 0] 23))
  have HW : Hid (Below w.heap.size w (((w.alloc (.cells #[.int .i64 a.lo, .int .i64 a.hi] 23)).alloc (.cells #[.int .i64 b.lo, .int .i64 b.hi] 23)).alloc (.cells #[.int .i64 0, .int .i64 0] 23))) := Lib.hid ((((Below.refl _ _).alloc (Nat.le_refl _) _).alloc (by simp) _).alloc (by simp; omega) _)
  generalize (((w.alloc (.cells #[.int .i64 a.lo, .int .i64 a.hi] 23)).alloc (.cells #[.int .i64 b.lo, .int .i64 b.hi] 23)).alloc (.cells #[.int .i64 0, .int .i64 0] 23)) = wv at *
  obtain ⟨lB0, cB0, fB0⟩ := B0.out
  obtain ⟨lB1, cB1, fB1⟩ := B1.out
  obtain ⟨lB2, cB2, fB2⟩ := B2.out
  go_wp2_with fail
  refine (refEmpty a).mono ?_
  rintro e w4 ⟨rfl, hb4⟩
  clear lB0 cB0 fB0 lB1 cB1 fB1 lB2 cB2 fB2
  replace B0 := Lib.hid (B0.out.later hb4)
  replace B1 := Lib.hid (B1.out.later hb4)
  replace B2 := Lib.hid (B2.out.later hb4)
  replace HW := Lib.hid (HW.out.trans (hb4.mono HW.out.size))
  clear hb4
  obtain ⟨lB0, cB0, fB0⟩ := B0.out
  obtain ⟨lB1, cB1, fB1⟩ := B1.out
  obtain ⟨lB2, cB2, fB2⟩ := B2.out
  cases hea : a.none
  case true =>
    have HM := Lib.hid (show mulS a b = ⟨0, -1⟩ by unfold mulS; rw [hea]; rfl)
    clear hea
    go_wp2_with fail
    refine refNone.mono ?_
    rintro e w9 ⟨rfl, hb9⟩
    clear lB0 cB0 fB0 lB1 cB1 fB1 lB2 cB2 fB2
    replace B0 := Lib.hid (B0.out.later hb9)
    replace B1 := Lib.hid (B1.out.later hb9)
    replace B2 := Lib.hid (B2.out.later hb9)
    replace HW := Lib.hid (HW.out.trans (hb9.mono HW.out.size))
    clear hb9
    obtain ⟨lB0, cB0, fB0⟩ := B0.out
    obtain ⟨lB1, cB1, fB1⟩ := B1.out
    obtain ⟨lB2, cB2, fB2⟩ := B2.out
    unfold Sp.val
    go_wp2
    exact bodyPost_ret (v := .agg #[.int .i64 0, .int .i64 (-1)]) (by simp [results, Try.results19, go_sem, *]) rfl ⟨by rw [HM.out], (HW.out.setCell (by simp; omega) _).setCell (by simp; omega) _⟩
  case false =>
    go_wp2_with fail
    refine (refEmpty b).mono ?_
    rintro e w5 ⟨rfl, hb5⟩
    clear lB0 cB0 fB0 lB1 cB1 fB1 lB2 cB2 fB2
    replace B0 := Lib.hid (B0.out.later hb5)
    replace B1 := Lib.hid (B1.out.later hb5)
    replace B2 := Lib.hid (B2.out.later hb5)
    replace HW := Lib.hid (HW.out.trans (hb5.mono HW.out.size))
    clear hb5
    obtain ⟨lB0, cB0, fB0⟩ := B0.out
    obtain ⟨lB1, cB1, fB1⟩ := B1.out
    obtain ⟨lB2, cB2, fB2⟩ := B2.out
    cases heb : b.none
    case true =>
      have HM := Lib.hid (show mulS a b = ⟨0, -1⟩ by unfold mulS; rw [hea, heb]; rfl)
      clear hea heb
      go_wp2_with fail
      refine refNone.mono ?_
      rintro e w9 ⟨rfl, hb9⟩
      clear lB0 cB0 fB0 lB1 cB1 fB1 lB2 cB2 fB2
      replace B0 := Lib.hid (B0.out.later hb9)
      replace B1 := Lib.hid (B1.out.later hb9)
      replace B2 := Lib.hid (B2.out.later hb9)
      replace HW := Lib.hid (HW.out.trans (hb9.mono HW.out.size))
      clear hb9
      obtain ⟨lB0, cB0, fB0⟩ := B0.out
      obtain ⟨lB1, cB1, fB1⟩ := B1.out
      obtain ⟨lB2, cB2, fB2⟩ := B2.out
      unfold Sp.val
      go_wp2
      exact bodyPost_ret (v := .agg #[.int .i64 0, .int .i64 (-1)]) (by simp [results, Try.results19, go_sem, *]) rfl ⟨by rw [HM.out], (HW.out.setCell (by simp; omega) _).setCell (by simp; omega) _⟩
    case false =>
      go_wp2_with fail
      refine (refFits a.lo b.lo HA.out.1 HB.out.1).mono ?_
      rintro e w5 ⟨rfl, rfl⟩
      cases hfit : fitB a.lo b.lo
      case false =>
        have HM := Lib.hid (mulS_no (by rw [hea, heb]; rfl) (k := 0) (by omega) (show ¬ In64 (pr a b 0) from (fitB_not _ _).1 hfit))
        clear hfit hea heb
        go_wp2_with fail
        refine refAll.mono ?_
        rintro e w9 ⟨rfl, hb9⟩
        clear lB0 cB0 fB0 lB1 cB1 fB1 lB2 cB2 fB2
        replace B0 := Lib.hid (B0.out.later hb9)
        replace B1 := Lib.hid (B1.out.later hb9)
        replace B2 := Lib.hid (B2.out.later hb9)
        replace HW := Lib.hid (HW.out.trans (hb9.mono HW.out.size))
        clear hb9
        obtain ⟨lB0, cB0, fB0⟩ := B0.out
        obtain ⟨lB1, cB1, fB1⟩ := B1.out
        obtain ⟨lB2, cB2, fB2⟩ := B2.out
        unfold Sp.val
        go_wp2
        exact bodyPost_ret (v := .agg #[.int .i64 (-9223372036854775808), .int .i64 9223372036854775807]) (by simp [results, Try.results19, go_sem, *]) rfl ⟨by rw [HM.out], (HW.out.setCell (by simp; omega) _).setCell (by simp; omega) _⟩
      case true =>
        have HF0 := Lib.hid hfit
        have V0 := Lib.hid (wrap_in ((fitB_iff _ _).1 hfit))
        clear hfit
        go_wp2_with fail
        refine (refFits a.lo b.hi HA.out.1 HB.out.2).mono ?_
        rintro e w5 ⟨rfl, rfl⟩
        cases hfit : fitB a.lo b.hi
        case false =>
          have HM := Lib.hid (mulS_no (by rw [hea, heb]; rfl) (k := 1) (by omega) (show ¬ In64 (pr a b 1) from (fitB_not _ _).1 hfit))
          clear hfit hea heb
          go_wp2_with fail
          refine refAll.mono ?_
          rintro e w9 ⟨rfl, hb9⟩
          clear lB0 cB0 fB0 lB1 cB1 fB1 lB2 cB2 fB2
          replace B0 := Lib.hid (B0.out.later hb9)
          replace B1 := Lib.hid (B1.out.later hb9)
          replace B2 := Lib.hid (B2.out.later hb9)
          replace HW := Lib.hid (HW.out.trans (hb9.mono HW.out.size))
          clear hb9
          obtain ⟨lB0, cB0, fB0⟩ := B0.out
          obtain ⟨lB1, cB1, fB1⟩ := B1.out
          obtain ⟨lB2, cB2, fB2⟩ := B2.out
          unfold Sp.val
          go_wp2
          exact bodyPost_ret (v := .agg #[.int .i64 (-9223372036854775808), .int .i64 9223372036854775807]) (by simp [results, Try.results19, go_sem, *]) rfl ⟨by rw [HM.out], (HW.out.setCell (by simp; omega) _).setCell (by simp; omega) _⟩
        case true =>
          have HF1 := Lib.hid hfit
          have V1 := Lib.hid (wrap_in ((fitB_iff _ _).1 hfit))
          clear hfit
          go_wp2_with fail
          refine (refFits a.hi b.lo HA.out.2 HB.out.1).mono ?_
          rintro e w5 ⟨rfl, rfl⟩
          cases hfit : fitB a.hi b.lo
          case false =>
            have HM := Lib.hid (mulS_no (by rw [hea, heb]; rfl) (k := 2) (by omega) (show ¬ In64 (pr a b 2) from (fitB_not _ _).1 hfit))
            clear hfit hea heb
            go_wp2_with fail
            refine refAll.mono ?_
            rintro e w9 ⟨rfl, hb9⟩
            clear lB0 cB0 fB0 lB1 cB1 fB1 lB2 cB2 fB2
            replace B0 := Lib.hid (B0.out.later hb9)
            replace B1 := Lib.hid (B1.out.later hb9)
            replace B2 := Lib.hid (B2.out.later hb9)
            replace HW := Lib.hid (HW.out.trans (hb9.mono HW.out.size))
            clear hb9
            obtain ⟨lB0, cB0, fB0⟩ := B0.out
            obtain ⟨lB1, cB1, fB1⟩ := B1.out
            obtain ⟨lB2, cB2, fB2⟩ := B2.out
            unfold Sp.val
            go_wp2
            exact bodyPost_ret (v := .agg #[.int .i64 (-9223372036854775808), .int .i64 9223372036854775807]) (by simp [results, Try.results19, go_sem, *]) rfl ⟨by rw [HM.out], (HW.out.setCell (by simp; omega) _).setCell (by simp; omega) _⟩
          case true =>
            have HF2 := Lib.hid hfit
            have V2 := Lib.hid (wrap_in ((fitB_iff _ _).1 hfit))
            clear hfit
            go_wp2_with fail
            refine (refFits a.hi b.hi HA.out.2 HB.out.2).mono ?_
            rintro e w5 ⟨rfl, rfl⟩
            cases hfit : fitB a.hi b.hi
            case false =>
              have HM := Lib.hid (mulS_no (by rw [hea, heb]; rfl) (k := 3) (by omega) (show ¬ In64 (pr a b 3) from (fitB_not _ _).1 hfit))
              clear hfit hea heb
              go_wp2_with fail
              refine refAll.mono ?_
              rintro e w9 ⟨rfl, hb9⟩
              clear lB0 cB0 fB0 lB1 cB1 fB1 lB2 cB2 fB2
              replace B0 := Lib.hid (B0.out.later hb9)
              replace B1 := Lib.hid (B1.out.later hb9)
              replace B2 := Lib.hid (B2.out.later hb9)
              replace HW := Lib.hid (HW.out.trans (hb9.mono HW.out.size))
              clear hb9
              obtain ⟨lB0, cB0, fB0⟩ := B0.out
              obtain ⟨lB1, cB1, fB1⟩ := B1.out
              obtain ⟨lB2, cB2, fB2⟩ := B2.out
              unfold Sp.val
              go_wp2
              exact bodyPost_ret (v := .agg #[.int .i64 (-9223372036854775808), .int .i64 9223372036854775807]) (by simp [results, Try.results19, go_sem, *]) rfl ⟨by rw [HM.out], (HW.out.setCell (by simp; omega) _).setCell (by simp; omega) _⟩
            case true =>
              have HF3 := Lib.hid hfit
              have V3 := Lib.hid (wrap_in ((fitB_iff _ _).1 hfit))
              clear hfit
              have HPF := Lib.hid (prF_succ (prF_succ (prF_succ (prF_succ (prF_zero a b) ((fitB_iff _ _).1 HF0.out)) ((fitB_iff _ _).1 HF1.out)) ((fitB_iff _ _).1 HF2.out)) ((fitB_iff _ _).1 HF3.out))
              have HM := Lib.hid (mulS_yes (by rw [hea, heb]; rfl) HPF.out)
              clear hea heb HF0 HF1 HF2 HF3
              obtain ⟨p0, hp0⟩ : ∃ p, a.lo * b.lo = p := ⟨_, rfl⟩
              obtain ⟨p1, hp1⟩ : ∃ p, a.lo * b.hi = p := ⟨_, rfl⟩
              obtain ⟨p2, hp2⟩ : ∃ p, a.hi * b.lo = p := ⟨_, rfl⟩
              obtain ⟨p3, hp3⟩ : ∃ p, a.hi * b.hi = p := ⟨_, rfl⟩
              have P0 := Lib.hid (show pr a b 0 = p0 from hp0)
              have P1 := Lib.hid (show pr a b 1 = p1 from hp1)
              have P2 := Lib.hid (show pr a b 2 = p2 from hp2)
              have P3 := Lib.hid (show pr a b 3 = p3 from hp3)
              have v0 := V0.out
              have v1 := V1.out
              have v2 := V2.out
              have v3 := V3.out
              rw [hp0] at v0
              rw [hp1] at v1
              rw [hp2] at v2
              rw [hp3] at v3
              go_upto_region 6 with (fail)
              clear hp0 hp1 hp2 hp3 v0 v1 v2 v3 V0 V1 V2 V3

              have nB5B0 : w5.heap.size ≠ w.heap.size := fun e => by have := lB0; omega
              have nB0B5 : w.heap.size ≠ w5.heap.size := fun e => nB5B0 e.symm
              have nB5B1 : w5.heap.size ≠ w.heap.size + 1 := fun e => by have := lB1; omega
              have nB1B5 : w.heap.size + 1 ≠ w5.heap.size := fun e => nB5B1 e.symm
              have nB5B2 : w5.heap.size ≠ w.heap.size + 1 + 1 := fun e => by have := lB2; omega
              have nB2B5 : w.heap.size + 1 + 1 ≠ w5.heap.size := fun e => nB5B2 e.symm
              have B0_ : Box (w5.alloc (.cells #[.int .i64 p0, .int .i64 p1, .int .i64 p2, .int .i64 p3] 3)) (w.heap.size) #[.int .i64 a.lo, .int .i64 a.hi] := by simpa using (B0.out.alloc _)
              have B1_ : Box (w5.alloc (.cells #[.int .i64 p0, .int .i64 p1, .int .i64 p2, .int .i64 p3] 3)) (w.heap.size + 1) #[.int .i64 b.lo, .int .i64 b.hi] := by simpa using (B1.out.alloc _)
              have B2_ : Box (w5.alloc (.cells #[.int .i64 p0, .int .i64 p1, .int .i64 p2, .int .i64 p3] 3)) (w.heap.size + 1 + 1) #[.int .i64 0, .int .i64 0] := by simpa using (B2.out.alloc _)
              have B5_ : Box (w5.alloc (.cells #[.int .i64 p0, .int .i64 p1, .int .i64 p2, .int .i64 p3] 3)) (w5.heap.size) #[.int .i64 p0, .int .i64 p1, .int .i64 p2, .int .i64 p3] := by simpa using (Box.new w5 #[.int .i64 p0, .int .i64 p1, .int .i64 p2, .int .i64 p3] 3)
              have HW_ : Below w.heap.size w (w5.alloc (.cells #[.int .i64 p0, .int .i64 p1, .int .i64 p2, .int .i64 p3] 3)) := (HW.out.alloc (by first | exact Nat.le_refl _ | exact HW.out.size | (simp only [World.size_alloc, World.size_setCell]; have := HW.out.size; omega)) _)
              clear lB0 cB0 fB0 lB1 cB1 fB1 lB2 cB2 fB2
              clear B0 B1 B2 HW
              generalize (w5.alloc (.cells #[.int .i64 p0, .int .i64 p1, .int .i64 p2, .int .i64 p3] 3)) = wl at *
              have B0 := Lib.hid B0_
              clear B0_
              have B1 := Lib.hid B1_
              clear B1_
              have B2 := Lib.hid B2_
              clear B2_
              have B5 := Lib.hid B5_
              clear B5_
              have HW := Lib.hid HW_
              clear HW_
              obtain ⟨lB0, cB0, fB0⟩ := B0.out
              obtain ⟨lB1, cB1, fB1⟩ := B1.out
              obtain ⟨lB2, cB2, fB2⟩ := B2.out
              obtain ⟨lB5, cB5, fB5⟩ := B5.out
              refine wp_region_grow 8 (fun k => match k with | 7 => .made wl.heap.size (fun b => .pointer (some ⟨b, 0, none⟩)) #[.int .i64 0, .int .i64 0] | _ => .plain) (by kernel_rfl) (by kernel_rfl) ?_ (fun ν => ?_)
              · (intro k; (try dsimp only); split <;> first | exact True.intro | (intro u w1 w2 hu hb; exact hu.below hb))
              simp only [List.take_succ_cons, List.take_zero, List.drop_succ_cons, List.drop_zero]
              refine Grow.val (v := ?_) rfl rfl (fun wg hbg hdg => ?_) ?_
              rotate_left
              focus ((obtain ⟨lg0, cg0, fg0⟩ := B0.out.later hbg); (obtain ⟨lg1, cg1, fg1⟩ := B1.out.later hbg); (obtain ⟨lg2, cg2, fg2⟩ := B2.out.later hbg); (obtain ⟨lg3, cg3, fg3⟩ := B5.out.later hbg); clear hbg hdg; first | (go_simp; done) | (go_simp; with_reducible rfl))
              simp only [Act.put, List.setIfInBounds_toArray, List.set_cons_zero, List.set_cons_succ]
              refine Grow.val (v := ?_) rfl rfl (fun wg hbg hdg => ?_) ?_
              rotate_left
              focus ((obtain ⟨lg0, cg0, fg0⟩ := B0.out.later hbg); (obtain ⟨lg1, cg1, fg1⟩ := B1.out.later hbg); (obtain ⟨lg2, cg2, fg2⟩ := B2.out.later hbg); (obtain ⟨lg3, cg3, fg3⟩ := B5.out.later hbg); clear hbg hdg; first | (go_simp; done) | (go_simp; with_reducible rfl))
              simp only [Act.put, List.setIfInBounds_toArray, List.set_cons_zero, List.set_cons_succ]
              refine Grow.val (v := ?_) rfl rfl (fun wg hbg hdg => ?_) ?_
              rotate_left
              focus ((obtain ⟨lg0, cg0, fg0⟩ := B0.out.later hbg); (obtain ⟨lg1, cg1, fg1⟩ := B1.out.later hbg); (obtain ⟨lg2, cg2, fg2⟩ := B2.out.later hbg); (obtain ⟨lg3, cg3, fg3⟩ := B5.out.later hbg); clear hbg hdg; first | (go_simp; done) | (go_simp; with_reducible rfl))
              simp only [Act.put, List.setIfInBounds_toArray, List.set_cons_zero, List.set_cons_succ]
              refine Grow.val (v := ?_) rfl rfl (fun wg hbg hdg => ?_) ?_
              rotate_left
              focus ((obtain ⟨lg0, cg0, fg0⟩ := B0.out.later hbg); (obtain ⟨lg1, cg1, fg1⟩ := B1.out.later hbg); (obtain ⟨lg2, cg2, fg2⟩ := B2.out.later hbg); (obtain ⟨lg3, cg3, fg3⟩ := B5.out.later hbg); clear hbg hdg; first | (go_simp; done) | (go_simp; with_reducible rfl))
              simp only [Act.put, List.setIfInBounds_toArray, List.set_cons_zero, List.set_cons_succ]
              refine Grow.val (v := ?_) rfl rfl (fun wg hbg hdg => ?_) ?_
              rotate_left
              focus ((obtain ⟨lg0, cg0, fg0⟩ := B0.out.later hbg); (obtain ⟨lg1, cg1, fg1⟩ := B1.out.later hbg); (obtain ⟨lg2, cg2, fg2⟩ := B2.out.later hbg); (obtain ⟨lg3, cg3, fg3⟩ := B5.out.later hbg); clear hbg hdg; first | (go_simp; done) | (go_simp; with_reducible rfl))
              simp only [Act.put, List.setIfInBounds_toArray, List.set_cons_zero, List.set_cons_succ]
              refine Grow.val (v := ?_) rfl rfl (fun wg hbg hdg => ?_) ?_
              rotate_left
              focus ((obtain ⟨lg0, cg0, fg0⟩ := B0.out.later hbg); (obtain ⟨lg1, cg1, fg1⟩ := B1.out.later hbg); (obtain ⟨lg2, cg2, fg2⟩ := B2.out.later hbg); (obtain ⟨lg3, cg3, fg3⟩ := B5.out.later hbg); clear hbg hdg; first | (go_simp; done) | (go_simp; with_reducible rfl))
              simp only [Act.put, List.setIfInBounds_toArray, List.set_cons_zero, List.set_cons_succ]
              refine Grow.val (v := ?_) rfl rfl (fun wg hbg hdg => ?_) ?_
              rotate_left
              focus ((obtain ⟨lg0, cg0, fg0⟩ := B0.out.later hbg); (obtain ⟨lg1, cg1, fg1⟩ := B1.out.later hbg); (obtain ⟨lg2, cg2, fg2⟩ := B2.out.later hbg); (obtain ⟨lg3, cg3, fg3⟩ := B5.out.later hbg); clear hbg hdg; first | (go_simp; done) | (go_simp; with_reducible rfl))
              simp only [Act.put, List.setIfInBounds_toArray, List.set_cons_zero, List.set_cons_succ]
              refine Grow.made (T := ?_) rfl rfl (fun wg hbg hdg => ?_) ?_
              rotate_left
              focus ((obtain ⟨lg0, cg0, fg0⟩ := B0.out.later hbg); (obtain ⟨lg1, cg1, fg1⟩ := B1.out.later hbg); (obtain ⟨lg2, cg2, fg2⟩ := B2.out.later hbg); (obtain ⟨lg3, cg3, fg3⟩ := B5.out.later hbg); clear hbg hdg; first | (go_simp; done) | (go_simp; with_reducible rfl))
              simp only [Act.put, Known.val, List.setIfInBounds_toArray, List.set_cons_zero, List.set_cons_succ]
              intro wg hb hf hap
              obtain ⟨bB6, hνB6, hBB6, hXB6⟩ := hf 7 (by omega)
              have nB6B0 : bB6 ≠ w.heap.size := fun e => by have := lB0; omega
              have nB0B6 : w.heap.size ≠ bB6 := fun e => nB6B0 e.symm
              have nB6B1 : bB6 ≠ w.heap.size + 1 := fun e => by have := lB1; omega
              have nB1B6 : w.heap.size + 1 ≠ bB6 := fun e => nB6B1 e.symm
              have nB6B2 : bB6 ≠ w.heap.size + 1 + 1 := fun e => by have := lB2; omega
              have nB2B6 : w.heap.size + 1 + 1 ≠ bB6 := fun e => nB6B2 e.symm
              have nB6B5 : bB6 ≠ w5.heap.size := fun e => by have := lB5; omega
              have nB5B6 : w5.heap.size ≠ bB6 := fun e => nB6B5 e.symm
              simp only [hνB6]
              clear hνB6
              clear hap
              have gB6 := Nat.le_trans HW.out.size hBB6
              clear hBB6
              clear lB0 cB0 fB0 lB1 cB1 fB1 lB2 cB2 fB2 lB5 cB5 fB5
              replace B0 := Lib.hid (B0.out.later hb)
              replace B1 := Lib.hid (B1.out.later hb)
              replace B2 := Lib.hid (B2.out.later hb)
              replace B5 := Lib.hid (B5.out.later hb)
              replace HW := Lib.hid (HW.out.trans (hb.mono HW.out.size))
              clear hb
              have B6 := Lib.hid hXB6
              clear hXB6
              obtain ⟨lB0, cB0, fB0⟩ := B0.out
              obtain ⟨lB1, cB1, fB1⟩ := B1.out
              obtain ⟨lB2, cB2, fB2⟩ := B2.out
              obtain ⟨lB5, cB5, fB5⟩ := B5.out
              obtain ⟨lB6, cB6, fB6⟩ := B6.out
              clear hf
              go_upto_region 7 with (fail)
              have B0_ : Box ((wg.setCell ⟨bB6, 0, none⟩ (.int .i64 p0)).setCell ⟨bB6, 1, none⟩ (.int .i64 p0)) (w.heap.size) #[.int .i64 a.lo, .int .i64 a.hi] := by simpa using ((B0.out.other (p := ⟨bB6, 0, none⟩) (.int .i64 p0) (by first | assumption | (simp; done) | omega)).other (p := ⟨bB6, 1, none⟩) (.int .i64 p0) (by first | assumption | (simp; done) | omega))
              have B1_ : Box ((wg.setCell ⟨bB6, 0, none⟩ (.int .i64 p0)).setCell ⟨bB6, 1, none⟩ (.int .i64 p0)) (w.heap.size + 1) #[.int .i64 b.lo, .int .i64 b.hi] := by simpa using ((B1.out.other (p := ⟨bB6, 0, none⟩) (.int .i64 p0) (by first | assumption | (simp; done) | omega)).other (p := ⟨bB6, 1, none⟩) (.int .i64 p0) (by first | assumption | (simp; done) | omega))
              have B2_ : Box ((wg.setCell ⟨bB6, 0, none⟩ (.int .i64 p0)).setCell ⟨bB6, 1, none⟩ (.int .i64 p0)) (w.heap.size + 1 + 1) #[.int .i64 0, .int .i64 0] := by simpa using ((B2.out.other (p := ⟨bB6, 0, none⟩) (.int .i64 p0) (by first | assumption | (simp; done) | omega)).other (p := ⟨bB6, 1, none⟩) (.int .i64 p0) (by first | assumption | (simp; done) | omega))
              have B5_ : Box ((wg.setCell ⟨bB6, 0, none⟩ (.int .i64 p0)).setCell ⟨bB6, 1, none⟩ (.int .i64 p0)) (w5.heap.size) #[.int .i64 p0, .int .i64 p1, .int .i64 p2, .int .i64 p3] := by simpa using ((B5.out.other (p := ⟨bB6, 0, none⟩) (.int .i64 p0) (by first | assumption | (simp; done) | omega)).other (p := ⟨bB6, 1, none⟩) (.int .i64 p0) (by first | assumption | (simp; done) | omega))
              have B6_ : Box ((wg.setCell ⟨bB6, 0, none⟩ (.int .i64 p0)).setCell ⟨bB6, 1, none⟩ (.int .i64 p0)) (bB6) #[(.int .i64 p0), (.int .i64 p0)] := by simpa using ((B6.out.set 0 (.int .i64 p0)).set 1 (.int .i64 p0))
              have HW_ : Below w.heap.size w ((wg.setCell ⟨bB6, 0, none⟩ (.int .i64 p0)).setCell ⟨bB6, 1, none⟩ (.int .i64 p0)) := ((HW.out.setCell (p := ⟨bB6, 0, none⟩) (by first | assumption | omega | (have := HW.out.size; omega) | (simp; omega)) (.int .i64 p0)).setCell (p := ⟨bB6, 1, none⟩) (by first | assumption | omega | (have := HW.out.size; omega) | (simp; omega)) (.int .i64 p0))
              clear lB0 cB0 fB0 lB1 cB1 fB1 lB2 cB2 fB2 lB5 cB5 fB5 lB6 cB6 fB6
              clear B0 B1 B2 B5 B6 HW
              generalize ((wg.setCell ⟨bB6, 0, none⟩ (.int .i64 p0)).setCell ⟨bB6, 1, none⟩ (.int .i64 p0)) = wm at *
              have B0 := Lib.hid B0_
              clear B0_
              have B1 := Lib.hid B1_
              clear B1_
              have B2 := Lib.hid B2_
              clear B2_
              have B5 := Lib.hid B5_
              clear B5_
              have B6 := Lib.hid B6_
              clear B6_
              have HW := Lib.hid HW_
              clear HW_
              obtain ⟨lB0, cB0, fB0⟩ := B0.out
              obtain ⟨lB1, cB1, fB1⟩ := B1.out
              obtain ⟨lB2, cB2, fB2⟩ := B2.out
              obtain ⟨lB5, cB5, fB5⟩ := B5.out
              obtain ⟨lB6, cB6, fB6⟩ := B6.out
              have HF1 := Lib.hid (joinL_first a b)
              go_wp2
              go_loopw [7] (fun i wr => ∃ (k : Nat) (out : Sp), 1 ≤ k ∧ k ≤ 4 ∧ i = .int .i64 k ∧ out = joinL (prL a b k) ∧ Box wr w.heap.size #[.int .i64 a.lo, .int .i64 a.hi] ∧ Box wr (w.heap.size + 1) #[.int .i64 b.lo, .int .i64 b.hi] ∧ Box wr (w.heap.size + 1 + 1) #[.int .i64 0, .int .i64 0] ∧
                  Box wr w5.heap.size #[.int .i64 p0, .int .i64 p1, .int .i64 p2, .int .i64 p3] ∧ Box wr bB6 #[.int .i64 out.lo, .int .i64 out.hi] ∧ Below w.heap.size w wr) (fun i _ => 4 - (intOf i).toNat)
              case atStart => exact ⟨1, pt p0, by omega, by omega, rfl, (by rw [HF1.out, P0.out]), B0.out, B1.out, B2.out, B5.out, B6.out, HW.out⟩
              case round =>
                obtain ⟨k, out, hk1, hk, rfl, ho, h0, h1, h2, h5, h6, hw⟩ := hrel
                clear lB0 cB0 fB0 lB1 cB1 fB1 lB2 cB2 fB2 lB5 cB5 fB5 lB6 cB6 fB6
                clear B0 B1 B2 B5 B6 HW
                have HO := Lib.hid ho
                have B0 := Lib.hid h0
                have B1 := Lib.hid h1
                have B2 := Lib.hid h2
                have B5 := Lib.hid h5
                have B6 := Lib.hid h6
                have HW := Lib.hid hw
                clear ho h0 h1 h2 h5 h6 hw


                obtain ⟨lB0, cB0, fB0⟩ := B0.out
                obtain ⟨lB1, cB1, fB1⟩ := B1.out
                obtain ⟨lB2, cB2, fB2⟩ := B2.out
                obtain ⟨lB5, cB5, fB5⟩ := B5.out
                obtain ⟨lB6, cB6, fB6⟩ := B6.out
                obtain rfl | rfl | rfl | rfl : k = 1 ∨ k = 2 ∨ k = 3 ∨ k = 4 := by omega
                ·
                  have Hp1 := Lib.hid (show pr a b 1 = p1 from P1.out)
                  have HJ := Lib.hid (show joinL [out, ⟨p1, p1⟩] = joinL (prL a b (1 + 1)) by rw [HO.out, ← Hp1.out]; exact joinL_next a b 0)
                  have HOK := Lib.hid (show out.ok by rw [HO.out]; exact joinL_ok _ (prL_ok fun q hq => HPF.out q (by omega)))
                  have HPO := Lib.hid (show Sp.ok ⟨p1, p1⟩ from (by rw [← Hp1.out]; exact ⟨HPF.out 1 (by omega), HPF.out 1 (by omega)⟩))
                  go_wp2
                  refine wp_region_grow 12 (fun k => match k with | 10 => .made wr.heap.size (fun b => .slice (some ⟨b, 0, none⟩) 2 2) #[.int .i64 out.lo, .int .i64 out.hi, .int .i64 p1, .int .i64 p1] | 11 => .const (.agg #[.int .i64 (joinL (prL a b (1 + 1))).lo, .int .i64 (joinL (prL a b (1 + 1))).hi]) | _ => .plain) (by kernel_rfl) (by kernel_rfl) ?_ (fun ν => ?_)
                  · (intro k; (try dsimp only); split <;> first | exact True.intro | (intro u w1 w2 hu hb; exact hu.below hb))
                  simp only [List.take_succ_cons, List.take_zero, List.drop_succ_cons, List.drop_zero]
                  refine Grow.val (v := ?_) rfl rfl (fun wg hbg hdg => ?_) ?_
                  rotate_left
                  focus ((obtain ⟨lg0, cg0, fg0⟩ := B0.out.later hbg); (obtain ⟨lg1, cg1, fg1⟩ := B1.out.later hbg); (obtain ⟨lg2, cg2, fg2⟩ := B2.out.later hbg); (obtain ⟨lg3, cg3, fg3⟩ := B5.out.later hbg); (obtain ⟨lg4, cg4, fg4⟩ := B6.out.later hbg); clear hbg hdg; first | (go_simp; done) | (go_simp; with_reducible rfl))
                  simp only [Act.put, List.setIfInBounds_toArray, List.set_cons_zero, List.set_cons_succ]
                  refine Grow.val (v := ?_) rfl rfl (fun wg hbg hdg => ?_) ?_
                  rotate_left
                  focus ((obtain ⟨lg0, cg0, fg0⟩ := B0.out.later hbg); (obtain ⟨lg1, cg1, fg1⟩ := B1.out.later hbg); (obtain ⟨lg2, cg2, fg2⟩ := B2.out.later hbg); (obtain ⟨lg3, cg3, fg3⟩ := B5.out.later hbg); (obtain ⟨lg4, cg4, fg4⟩ := B6.out.later hbg); clear hbg hdg; first | (go_simp; done) | (go_simp; with_reducible rfl))
                  simp only [Act.put, List.setIfInBounds_toArray, List.set_cons_zero, List.set_cons_succ]
                  refine Grow.val (v := ?_) rfl rfl (fun wg hbg hdg => ?_) ?_
                  rotate_left
                  focus ((obtain ⟨lg0, cg0, fg0⟩ := B0.out.later hbg); (obtain ⟨lg1, cg1, fg1⟩ := B1.out.later hbg); (obtain ⟨lg2, cg2, fg2⟩ := B2.out.later hbg); (obtain ⟨lg3, cg3, fg3⟩ := B5.out.later hbg); (obtain ⟨lg4, cg4, fg4⟩ := B6.out.later hbg); clear hbg hdg; first | (go_simp; done) | (go_simp; with_reducible rfl))
                  simp only [Act.put, List.setIfInBounds_toArray, List.set_cons_zero, List.set_cons_succ]
                  refine Grow.val (v := ?_) rfl rfl (fun wg hbg hdg => ?_) ?_
                  rotate_left
                  focus ((obtain ⟨lg0, cg0, fg0⟩ := B0.out.later hbg); (obtain ⟨lg1, cg1, fg1⟩ := B1.out.later hbg); (obtain ⟨lg2, cg2, fg2⟩ := B2.out.later hbg); (obtain ⟨lg3, cg3, fg3⟩ := B5.out.later hbg); (obtain ⟨lg4, cg4, fg4⟩ := B6.out.later hbg); clear hbg hdg; first | (go_simp; done) | (go_simp; with_reducible rfl))
                  simp only [Act.put, List.setIfInBounds_toArray, List.set_cons_zero, List.set_cons_succ]
                  refine Grow.val (v := ?_) rfl rfl (fun wg hbg hdg => ?_) ?_
                  rotate_left
                  focus ((obtain ⟨lg0, cg0, fg0⟩ := B0.out.later hbg); (obtain ⟨lg1, cg1, fg1⟩ := B1.out.later hbg); (obtain ⟨lg2, cg2, fg2⟩ := B2.out.later hbg); (obtain ⟨lg3, cg3, fg3⟩ := B5.out.later hbg); (obtain ⟨lg4, cg4, fg4⟩ := B6.out.later hbg); clear hbg hdg; first | (go_simp; done) | (go_simp; with_reducible rfl))
                  simp only [Act.put, List.setIfInBounds_toArray, List.set_cons_zero, List.set_cons_succ]
                  refine Grow.val (v := ?_) rfl rfl (fun wg hbg hdg => ?_) ?_
                  rotate_left
                  focus ((obtain ⟨lg0, cg0, fg0⟩ := B0.out.later hbg); (obtain ⟨lg1, cg1, fg1⟩ := B1.out.later hbg); (obtain ⟨lg2, cg2, fg2⟩ := B2.out.later hbg); (obtain ⟨lg3, cg3, fg3⟩ := B5.out.later hbg); (obtain ⟨lg4, cg4, fg4⟩ := B6.out.later hbg); clear hbg hdg; first | (go_simp; done) | (go_simp; with_reducible rfl))
                  simp only [Act.put, List.setIfInBounds_toArray, List.set_cons_zero, List.set_cons_succ]
                  refine Grow.val (v := ?_) rfl rfl (fun wg hbg hdg => ?_) ?_
                  rotate_left
                  focus ((obtain ⟨lg0, cg0, fg0⟩ := B0.out.later hbg); (obtain ⟨lg1, cg1, fg1⟩ := B1.out.later hbg); (obtain ⟨lg2, cg2, fg2⟩ := B2.out.later hbg); (obtain ⟨lg3, cg3, fg3⟩ := B5.out.later hbg); (obtain ⟨lg4, cg4, fg4⟩ := B6.out.later hbg); clear hbg hdg; first | (go_simp; done) | (go_simp; with_reducible rfl))
                  simp only [Act.put, List.setIfInBounds_toArray, List.set_cons_zero, List.set_cons_succ]
                  refine Grow.val (v := ?_) rfl rfl (fun wg hbg hdg => ?_) ?_
                  rotate_left
                  focus ((obtain ⟨lg0, cg0, fg0⟩ := B0.out.later hbg); (obtain ⟨lg1, cg1, fg1⟩ := B1.out.later hbg); (obtain ⟨lg2, cg2, fg2⟩ := B2.out.later hbg); (obtain ⟨lg3, cg3, fg3⟩ := B5.out.later hbg); (obtain ⟨lg4, cg4, fg4⟩ := B6.out.later hbg); clear hbg hdg; first | (go_simp; done) | (go_simp; with_reducible rfl))
                  simp only [Act.put, List.setIfInBounds_toArray, List.set_cons_zero, List.set_cons_succ]
                  refine Grow.val (v := ?_) rfl rfl (fun wg hbg hdg => ?_) ?_
                  rotate_left
                  focus ((obtain ⟨lg0, cg0, fg0⟩ := B0.out.later hbg); (obtain ⟨lg1, cg1, fg1⟩ := B1.out.later hbg); (obtain ⟨lg2, cg2, fg2⟩ := B2.out.later hbg); (obtain ⟨lg3, cg3, fg3⟩ := B5.out.later hbg); (obtain ⟨lg4, cg4, fg4⟩ := B6.out.later hbg); clear hbg hdg; first | (go_simp; done) | (go_simp; with_reducible rfl))
                  simp only [Act.put, List.setIfInBounds_toArray, List.set_cons_zero, List.set_cons_succ]
                  refine Grow.val (v := ?_) rfl rfl (fun wg hbg hdg => ?_) ?_
                  rotate_left
                  focus ((obtain ⟨lg0, cg0, fg0⟩ := B0.out.later hbg); (obtain ⟨lg1, cg1, fg1⟩ := B1.out.later hbg); (obtain ⟨lg2, cg2, fg2⟩ := B2.out.later hbg); (obtain ⟨lg3, cg3, fg3⟩ := B5.out.later hbg); (obtain ⟨lg4, cg4, fg4⟩ := B6.out.later hbg); clear hbg hdg; first | (go_simp; done) | (go_simp; with_reducible rfl))
                  simp only [Act.put, List.setIfInBounds_toArray, List.set_cons_zero, List.set_cons_succ]
                  refine Grow.made (T := ?_) rfl rfl (fun wg hbg hdg => ?_) ?_
                  rotate_left
                  focus ((obtain ⟨lg0, cg0, fg0⟩ := B0.out.later hbg); (obtain ⟨lg1, cg1, fg1⟩ := B1.out.later hbg); (obtain ⟨lg2, cg2, fg2⟩ := B2.out.later hbg); (obtain ⟨lg3, cg3, fg3⟩ := B5.out.later hbg); (obtain ⟨lg4, cg4, fg4⟩ := B6.out.later hbg); clear hbg hdg; first | (go_simp; done) | (go_simp; with_reducible rfl))
                  simp only [Act.put, Known.val, List.setIfInBounds_toArray, List.set_cons_zero, List.set_cons_succ]
                  refine Grow.call (f := ?_) (args := ?_) rfl (fun wg => ?_) (fun wg hbg hdg => ?_) ?_
                  rotate_left 2
                  focus (first | (go_simp; done) | (go_simp; refine And.intro ?_ ?_ <;> with_reducible rfl) | (go_simp; with_reducible rfl))
                  focus ((obtain ⟨bq, hq, _, hX⟩ := hdg 10 (by kernel_rfl)); rw [hq]; exact Calls.mono (HJ.out ▸ refJoin (spans_box2 hX HOK.out HPO.out)) (fun e w2 ⟨he, hb2⟩ => ⟨_, he, rfl, hb2⟩))
                  simp only [Act.put, Known.val, List.setIfInBounds_toArray, List.set_cons_zero, List.set_cons_succ]
                  intro wg hb hf hap
                  obtain ⟨bB10, hνB10, hBB10, hXB10⟩ := hf 10 (by omega)
                  have nB10B0 : bB10 ≠ w.heap.size := fun e => by have := lB0; omega
                  have nB0B10 : w.heap.size ≠ bB10 := fun e => nB10B0 e.symm
                  have nB10B1 : bB10 ≠ w.heap.size + 1 := fun e => by have := lB1; omega
                  have nB1B10 : w.heap.size + 1 ≠ bB10 := fun e => nB10B1 e.symm
                  have nB10B2 : bB10 ≠ w.heap.size + 1 + 1 := fun e => by have := lB2; omega
                  have nB2B10 : w.heap.size + 1 + 1 ≠ bB10 := fun e => nB10B2 e.symm
                  have nB10B5 : bB10 ≠ w5.heap.size := fun e => by have := lB5; omega
                  have nB5B10 : w5.heap.size ≠ bB10 := fun e => nB10B5 e.symm
                  have nB10B6 : bB10 ≠ bB6 := fun e => by have := lB6; omega
                  have nB6B10 : bB6 ≠ bB10 := fun e => nB10B6 e.symm
                  simp only [hνB10]
                  clear hνB10
                  clear hap
                  have gB10 := Nat.le_trans HW.out.size hBB10
                  clear hBB10
                  clear lB0 cB0 fB0 lB1 cB1 fB1 lB2 cB2 fB2 lB5 cB5 fB5 lB6 cB6 fB6
                  replace B0 := Lib.hid (B0.out.later hb)
                  replace B1 := Lib.hid (B1.out.later hb)
                  replace B2 := Lib.hid (B2.out.later hb)
                  replace B5 := Lib.hid (B5.out.later hb)
                  replace B6 := Lib.hid (B6.out.later hb)
                  replace HW := Lib.hid (HW.out.trans (hb.mono HW.out.size))
                  clear hb
                  have B10 := Lib.hid hXB10
                  clear hXB10
                  obtain ⟨lB0, cB0, fB0⟩ := B0.out
                  obtain ⟨lB1, cB1, fB1⟩ := B1.out
                  obtain ⟨lB2, cB2, fB2⟩ := B2.out
                  obtain ⟨lB5, cB5, fB5⟩ := B5.out
                  obtain ⟨lB6, cB6, fB6⟩ := B6.out
                  obtain ⟨lB10, cB10, fB10⟩ := B10.out
                  clear hf
                  go_upto_region 9 with (fail)
                  have B0_ : Box ((wg.setCell ⟨bB6, 0, none⟩ (.int .i64 (joinL (prL a b (1 + 1))).lo)).setCell ⟨bB6, 1, none⟩ (.int .i64 (joinL (prL a b (1 + 1))).hi)) (w.heap.size) #[.int .i64 a.lo, .int .i64 a.hi] := by simpa using ((B0.out.other (p := ⟨bB6, 0, none⟩) (.int .i64 (joinL (prL a b (1 + 1))).lo) (by first | assumption | (simp; done) | omega)).other (p := ⟨bB6, 1, none⟩) (.int .i64 (joinL (prL a b (1 + 1))).hi) (by first | assumption | (simp; done) | omega))
                  have B1_ : Box ((wg.setCell ⟨bB6, 0, none⟩ (.int .i64 (joinL (prL a b (1 + 1))).lo)).setCell ⟨bB6, 1, none⟩ (.int .i64 (joinL (prL a b (1 + 1))).hi)) (w.heap.size + 1) #[.int .i64 b.lo, .int .i64 b.hi] := by simpa using ((B1.out.other (p := ⟨bB6, 0, none⟩) (.int .i64 (joinL (prL a b (1 + 1))).lo) (by first | assumption | (simp; done) | omega)).other (p := ⟨bB6, 1, none⟩) (.int .i64 (joinL (prL a b (1 + 1))).hi) (by first | assumption | (simp; done) | omega))
                  have B2_ : Box ((wg.setCell ⟨bB6, 0, none⟩ (.int .i64 (joinL (prL a b (1 + 1))).lo)).setCell ⟨bB6, 1, none⟩ (.int .i64 (joinL (prL a b (1 + 1))).hi)) (w.heap.size + 1 + 1) #[.int .i64 0, .int .i64 0] := by simpa using ((B2.out.other (p := ⟨bB6, 0, none⟩) (.int .i64 (joinL (prL a b (1 + 1))).lo) (by first | assumption | (simp; done) | omega)).other (p := ⟨bB6, 1, none⟩) (.int .i64 (joinL (prL a b (1 + 1))).hi) (by first | assumption | (simp; done) | omega))
                  have B5_ : Box ((wg.setCell ⟨bB6, 0, none⟩ (.int .i64 (joinL (prL a b (1 + 1))).lo)).setCell ⟨bB6, 1, none⟩ (.int .i64 (joinL (prL a b (1 + 1))).hi)) (w5.heap.size) #[.int .i64 p0, .int .i64 p1, .int .i64 p2, .int .i64 p3] := by simpa using ((B5.out.other (p := ⟨bB6, 0, none⟩) (.int .i64 (joinL (prL a b (1 + 1))).lo) (by first | assumption | (simp; done) | omega)).other (p := ⟨bB6, 1, none⟩) (.int .i64 (joinL (prL a b (1 + 1))).hi) (by first | assumption | (simp; done) | omega))
                  have B6_ : Box ((wg.setCell ⟨bB6, 0, none⟩ (.int .i64 (joinL (prL a b (1 + 1))).lo)).setCell ⟨bB6, 1, none⟩ (.int .i64 (joinL (prL a b (1 + 1))).hi)) (bB6) #[(.int .i64 (joinL (prL a b (1 + 1))).lo), (.int .i64 (joinL (prL a b (1 + 1))).hi)] := by simpa using ((B6.out.set 0 (.int .i64 (joinL (prL a b (1 + 1))).lo)).set 1 (.int .i64 (joinL (prL a b (1 + 1))).hi))
                  have B10_ : Box ((wg.setCell ⟨bB6, 0, none⟩ (.int .i64 (joinL (prL a b (1 + 1))).lo)).setCell ⟨bB6, 1, none⟩ (.int .i64 (joinL (prL a b (1 + 1))).hi)) (bB10) #[.int .i64 out.lo, .int .i64 out.hi, .int .i64 p1, .int .i64 p1] := by simpa using ((B10.out.other (p := ⟨bB6, 0, none⟩) (.int .i64 (joinL (prL a b (1 + 1))).lo) (by first | assumption | (simp; done) | omega)).other (p := ⟨bB6, 1, none⟩) (.int .i64 (joinL (prL a b (1 + 1))).hi) (by first | assumption | (simp; done) | omega))
                  have HW_ : Below w.heap.size w ((wg.setCell ⟨bB6, 0, none⟩ (.int .i64 (joinL (prL a b (1 + 1))).lo)).setCell ⟨bB6, 1, none⟩ (.int .i64 (joinL (prL a b (1 + 1))).hi)) := ((HW.out.setCell (p := ⟨bB6, 0, none⟩) (by first | assumption | omega | (have := HW.out.size; omega) | (simp; omega)) (.int .i64 (joinL (prL a b (1 + 1))).lo)).setCell (p := ⟨bB6, 1, none⟩) (by first | assumption | omega | (have := HW.out.size; omega) | (simp; omega)) (.int .i64 (joinL (prL a b (1 + 1))).hi))
                  clear lB0 cB0 fB0 lB1 cB1 fB1 lB2 cB2 fB2 lB5 cB5 fB5 lB6 cB6 fB6 lB10 cB10 fB10
                  clear B0 B1 B2 B5 B6 B10 HW
                  generalize ((wg.setCell ⟨bB6, 0, none⟩ (.int .i64 (joinL (prL a b (1 + 1))).lo)).setCell ⟨bB6, 1, none⟩ (.int .i64 (joinL (prL a b (1 + 1))).hi)) = wz at *
                  have B0 := Lib.hid B0_
                  clear B0_
                  have B1 := Lib.hid B1_
                  clear B1_
                  have B2 := Lib.hid B2_
                  clear B2_
                  have B5 := Lib.hid B5_
                  clear B5_
                  have B6 := Lib.hid B6_
                  clear B6_
                  have B10 := Lib.hid B10_
                  clear B10_
                  have HW := Lib.hid HW_
                  clear HW_
                  obtain ⟨lB0, cB0, fB0⟩ := B0.out
                  obtain ⟨lB1, cB1, fB1⟩ := B1.out
                  obtain ⟨lB2, cB2, fB2⟩ := B2.out
                  obtain ⟨lB5, cB5, fB5⟩ := B5.out
                  obtain ⟨lB6, cB6, fB6⟩ := B6.out
                  obtain ⟨lB10, cB10, fB10⟩ := B10.out
                  go_wp2
                  go_roundw
                  case rel => exact ⟨1 + 1, _, by omega, by omega, by go_num, rfl, B0.out, B1.out, B2.out, B5.out, B6.out, HW.out⟩
                  case measure => simp [intOf]
                ·
                  have Hp2 := Lib.hid (show pr a b 2 = p2 from P2.out)
                  have HJ := Lib.hid (show joinL [out, ⟨p2, p2⟩] = joinL (prL a b (2 + 1)) by rw [HO.out, ← Hp2.out]; exact joinL_next a b 1)
                  have HOK := Lib.hid (show out.ok by rw [HO.out]; exact joinL_ok _ (prL_ok fun q hq => HPF.out q (by omega)))
                  have HPO := Lib.hid (show Sp.ok ⟨p2, p2⟩ from (by rw [← Hp2.out]; exact ⟨HPF.out 2 (by omega), HPF.out 2 (by omega)⟩))
                  go_wp2
                  refine wp_region_grow 12 (fun k => match k with | 10 => .made wr.heap.size (fun b => .slice (some ⟨b, 0, none⟩) 2 2) #[.int .i64 out.lo, .int .i64 out.hi, .int .i64 p2, .int .i64 p2] | 11 => .const (.agg #[.int .i64 (joinL (prL a b (2 + 1))).lo, .int .i64 (joinL (prL a b (2 + 1))).hi]) | _ => .plain) (by kernel_rfl) (by kernel_rfl) ?_ (fun ν => ?_)
                  · (intro k; (try dsimp only); split <;> first | exact True.intro | (intro u w1 w2 hu hb; exact hu.below hb))
                  simp only [List.take_succ_cons, List.take_zero, List.drop_succ_cons, List.drop_zero]
                  refine Grow.val (v := ?_) rfl rfl (fun wg hbg hdg => ?_) ?_
                  rotate_left
                  focus ((obtain ⟨lg0, cg0, fg0⟩ := B0.out.later hbg); (obtain ⟨lg1, cg1, fg1⟩ := B1.out.later hbg); (obtain ⟨lg2, cg2, fg2⟩ := B2.out.later hbg); (obtain ⟨lg3, cg3, fg3⟩ := B5.out.later hbg); (obtain ⟨lg4, cg4, fg4⟩ := B6.out.later hbg); clear hbg hdg; first | (go_simp; done) | (go_simp; with_reducible rfl))
                  simp only [Act.put, List.setIfInBounds_toArray, List.set_cons_zero, List.set_cons_succ]
                  refine Grow.val (v := ?_) rfl rfl (fun wg hbg hdg => ?_) ?_
                  rotate_left
                  focus ((obtain ⟨lg0, cg0, fg0⟩ := B0.out.later hbg); (obtain ⟨lg1, cg1, fg1⟩ := B1.out.later hbg); (obtain ⟨lg2, cg2, fg2⟩ := B2.out.later hbg); (obtain ⟨lg3, cg3, fg3⟩ := B5.out.later hbg); (obtain ⟨lg4, cg4, fg4⟩ := B6.out.later hbg); clear hbg hdg; first | (go_simp; done) | (go_simp; with_reducible rfl))
                  simp only [Act.put, List.setIfInBounds_toArray, List.set_cons_zero, List.set_cons_succ]
                  refine Grow.val (v := ?_) rfl rfl (fun wg hbg hdg => ?_) ?_
                  rotate_left
                  focus ((obtain ⟨lg0, cg0, fg0⟩ := B0.out.later hbg); (obtain ⟨lg1, cg1, fg1⟩ := B1.out.later hbg); (obtain ⟨lg2, cg2, fg2⟩ := B2.out.later hbg); (obtain ⟨lg3, cg3, fg3⟩ := B5.out.later hbg); (obtain ⟨lg4, cg4, fg4⟩ := B6.out.later hbg); clear hbg hdg; first | (go_simp; done) | (go_simp; with_reducible rfl))
                  simp only [Act.put, List.setIfInBounds_toArray, List.set_cons_zero, List.set_cons_succ]
                  refine Grow.val (v := ?_) rfl rfl (fun wg hbg hdg => ?_) ?_
                  rotate_left
                  focus ((obtain ⟨lg0, cg0, fg0⟩ := B0.out.later hbg); (obtain ⟨lg1, cg1, fg1⟩ := B1.out.later hbg); (obtain ⟨lg2, cg2, fg2⟩ := B2.out.later hbg); (obtain ⟨lg3, cg3, fg3⟩ := B5.out.later hbg); (obtain ⟨lg4, cg4, fg4⟩ := B6.out.later hbg); clear hbg hdg; first | (go_simp; done) | (go_simp; with_reducible rfl))
                  simp only [Act.put, List.setIfInBounds_toArray, List.set_cons_zero, List.set_cons_succ]
                  refine Grow.val (v := ?_) rfl rfl (fun wg hbg hdg => ?_) ?_
                  rotate_left
                  focus ((obtain ⟨lg0, cg0, fg0⟩ := B0.out.later hbg); (obtain ⟨lg1, cg1, fg1⟩ := B1.out.later hbg); (obtain ⟨lg2, cg2, fg2⟩ := B2.out.later hbg); (obtain ⟨lg3, cg3, fg3⟩ := B5.out.later hbg); (obtain ⟨lg4, cg4, fg4⟩ := B6.out.later hbg); clear hbg hdg; first | (go_simp; done) | (go_simp; with_reducible rfl))
                  simp only [Act.put, List.setIfInBounds_toArray, List.set_cons_zero, List.set_cons_succ]
                  refine Grow.val (v := ?_) rfl rfl (fun wg hbg hdg => ?_) ?_
                  rotate_left
                  focus ((obtain ⟨lg0, cg0, fg0⟩ := B0.out.later hbg); (obtain ⟨lg1, cg1, fg1⟩ := B1.out.later hbg); (obtain ⟨lg2, cg2, fg2⟩ := B2.out.later hbg); (obtain ⟨lg3, cg3, fg3⟩ := B5.out.later hbg); (obtain ⟨lg4, cg4, fg4⟩ := B6.out.later hbg); clear hbg hdg; first | (go_simp; done) | (go_simp; with_reducible rfl))
                  simp only [Act.put, List.setIfInBounds_toArray, List.set_cons_zero, List.set_cons_succ]
                  refine Grow.val (v := ?_) rfl rfl (fun wg hbg hdg => ?_) ?_
                  rotate_left
                  focus ((obtain ⟨lg0, cg0, fg0⟩ := B0.out.later hbg); (obtain ⟨lg1, cg1, fg1⟩ := B1.out.later hbg); (obtain ⟨lg2, cg2, fg2⟩ := B2.out.later hbg); (obtain ⟨lg3, cg3, fg3⟩ := B5.out.later hbg); (obtain ⟨lg4, cg4, fg4⟩ := B6.out.later hbg); clear hbg hdg; first | (go_simp; done) | (go_simp; with_reducible rfl))
                  simp only [Act.put, List.setIfInBounds_toArray, List.set_cons_zero, List.set_cons_succ]
                  refine Grow.val (v := ?_) rfl rfl (fun wg hbg hdg => ?_) ?_
                  rotate_left
                  focus ((obtain ⟨lg0, cg0, fg0⟩ := B0.out.later hbg); (obtain ⟨lg1, cg1, fg1⟩ := B1.out.later hbg); (obtain ⟨lg2, cg2, fg2⟩ := B2.out.later hbg); (obtain ⟨lg3, cg3, fg3⟩ := B5.out.later hbg); (obtain ⟨lg4, cg4, fg4⟩ := B6.out.later hbg); clear hbg hdg; first | (go_simp; done) | (go_simp; with_reducible rfl))
                  simp only [Act.put, List.setIfInBounds_toArray, List.set_cons_zero, List.set_cons_succ]
                  refine Grow.val (v := ?_) rfl rfl (fun wg hbg hdg => ?_) ?_
                  rotate_left
                  focus ((obtain ⟨lg0, cg0, fg0⟩ := B0.out.later hbg); (obtain ⟨lg1, cg1, fg1⟩ := B1.out.later hbg); (obtain ⟨lg2, cg2, fg2⟩ := B2.out.later hbg); (obtain ⟨lg3, cg3, fg3⟩ := B5.out.later hbg); (obtain ⟨lg4, cg4, fg4⟩ := B6.out.later hbg); clear hbg hdg; first | (go_simp; done) | (go_simp; with_reducible rfl))
                  simp only [Act.put, List.setIfInBounds_toArray, List.set_cons_zero, List.set_cons_succ]
                  refine Grow.val (v := ?_) rfl rfl (fun wg hbg hdg => ?_) ?_
                  rotate_left
                  focus ((obtain ⟨lg0, cg0, fg0⟩ := B0.out.later hbg); (obtain ⟨lg1, cg1, fg1⟩ := B1.out.later hbg); (obtain ⟨lg2, cg2, fg2⟩ := B2.out.later hbg); (obtain ⟨lg3, cg3, fg3⟩ := B5.out.later hbg); (obtain ⟨lg4, cg4, fg4⟩ := B6.out.later hbg); clear hbg hdg; first | (go_simp; done) | (go_simp; with_reducible rfl))
                  simp only [Act.put, List.setIfInBounds_toArray, List.set_cons_zero, List.set_cons_succ]
                  refine Grow.made (T := ?_) rfl rfl (fun wg hbg hdg => ?_) ?_
                  rotate_left
                  focus ((obtain ⟨lg0, cg0, fg0⟩ := B0.out.later hbg); (obtain ⟨lg1, cg1, fg1⟩ := B1.out.later hbg); (obtain ⟨lg2, cg2, fg2⟩ := B2.out.later hbg); (obtain ⟨lg3, cg3, fg3⟩ := B5.out.later hbg); (obtain ⟨lg4, cg4, fg4⟩ := B6.out.later hbg); clear hbg hdg; first | (go_simp; done) | (go_simp; with_reducible rfl))
                  simp only [Act.put, Known.val, List.setIfInBounds_toArray, List.set_cons_zero, List.set_cons_succ]
                  refine Grow.call (f := ?_) (args := ?_) rfl (fun wg => ?_) (fun wg hbg hdg => ?_) ?_
                  rotate_left 2
                  focus (first | (go_simp; done) | (go_simp; refine And.intro ?_ ?_ <;> with_reducible rfl) | (go_simp; with_reducible rfl))
                  focus ((obtain ⟨bq, hq, _, hX⟩ := hdg 10 (by kernel_rfl)); rw [hq]; exact Calls.mono (HJ.out ▸ refJoin (spans_box2 hX HOK.out HPO.out)) (fun e w2 ⟨he, hb2⟩ => ⟨_, he, rfl, hb2⟩))
                  simp only [Act.put, Known.val, List.setIfInBounds_toArray, List.set_cons_zero, List.set_cons_succ]
                  intro wg hb hf hap
                  obtain ⟨bB10, hνB10, hBB10, hXB10⟩ := hf 10 (by omega)
                  have nB10B0 : bB10 ≠ w.heap.size := fun e => by have := lB0; omega
                  have nB0B10 : w.heap.size ≠ bB10 := fun e => nB10B0 e.symm
                  have nB10B1 : bB10 ≠ w.heap.size + 1 := fun e => by have := lB1; omega
                  have nB1B10 : w.heap.size + 1 ≠ bB10 := fun e => nB10B1 e.symm
                  have nB10B2 : bB10 ≠ w.heap.size + 1 + 1 := fun e => by have := lB2; omega
                  have nB2B10 : w.heap.size + 1 + 1 ≠ bB10 := fun e => nB10B2 e.symm
                  have nB10B5 : bB10 ≠ w5.heap.size := fun e => by have := lB5; omega
                  have nB5B10 : w5.heap.size ≠ bB10 := fun e => nB10B5 e.symm
                  have nB10B6 : bB10 ≠ bB6 := fun e => by have := lB6; omega
                  have nB6B10 : bB6 ≠ bB10 := fun e => nB10B6 e.symm
                  simp only [hνB10]
                  clear hνB10
                  clear hap
                  have gB10 := Nat.le_trans HW.out.size hBB10
                  clear hBB10
                  clear lB0 cB0 fB0 lB1 cB1 fB1 lB2 cB2 fB2 lB5 cB5 fB5 lB6 cB6 fB6
                  replace B0 := Lib.hid (B0.out.later hb)
                  replace B1 := Lib.hid (B1.out.later hb)
                  replace B2 := Lib.hid (B2.out.later hb)
                  replace B5 := Lib.hid (B5.out.later hb)
                  replace B6 := Lib.hid (B6.out.later hb)
                  replace HW := Lib.hid (HW.out.trans (hb.mono HW.out.size))
                  clear hb
                  have B10 := Lib.hid hXB10
                  clear hXB10
                  obtain ⟨lB0, cB0, fB0⟩ := B0.out
                  obtain ⟨lB1, cB1, fB1⟩ := B1.out
                  obtain ⟨lB2, cB2, fB2⟩ := B2.out
                  obtain ⟨lB5, cB5, fB5⟩ := B5.out
                  obtain ⟨lB6, cB6, fB6⟩ := B6.out
                  obtain ⟨lB10, cB10, fB10⟩ := B10.out
                  clear hf
                  go_upto_region 9 with (fail)
                  have B0_ : Box ((wg.setCell ⟨bB6, 0, none⟩ (.int .i64 (joinL (prL a b (2 + 1))).lo)).setCell ⟨bB6, 1, none⟩ (.int .i64 (joinL (prL a b (2 + 1))).hi)) (w.heap.size) #[.int .i64 a.lo, .int .i64 a.hi] := by simpa using ((B0.out.other (p := ⟨bB6, 0, none⟩) (.int .i64 (joinL (prL a b (2 + 1))).lo) (by first | assumption | (simp; done) | omega)).other (p := ⟨bB6, 1, none⟩) (.int .i64 (joinL (prL a b (2 + 1))).hi) (by first | assumption | (simp; done) | omega))
                  have B1_ : Box ((wg.setCell ⟨bB6, 0, none⟩ (.int .i64 (joinL (prL a b (2 + 1))).lo)).setCell ⟨bB6, 1, none⟩ (.int .i64 (joinL (prL a b (2 + 1))).hi)) (w.heap.size + 1) #[.int .i64 b.lo, .int .i64 b.hi] := by simpa using ((B1.out.other (p := ⟨bB6, 0, none⟩) (.int .i64 (joinL (prL a b (2 + 1))).lo) (by first | assumption | (simp; done) | omega)).other (p := ⟨bB6, 1, none⟩) (.int .i64 (joinL (prL a b (2 + 1))).hi) (by first | assumption | (simp; done) | omega))
                  have B2_ : Box ((wg.setCell ⟨bB6, 0, none⟩ (.int .i64 (joinL (prL a b (2 + 1))).lo)).setCell ⟨bB6, 1, none⟩ (.int .i64 (joinL (prL a b (2 + 1))).hi)) (w.heap.size + 1 + 1) #[.int .i64 0, .int .i64 0] := by simpa using ((B2.out.other (p := ⟨bB6, 0, none⟩) (.int .i64 (joinL (prL a b (2 + 1))).lo) (by first | assumption | (simp; done) | omega)).other (p := ⟨bB6, 1, none⟩) (.int .i64 (joinL (prL a b (2 + 1))).hi) (by first | assumption | (simp; done) | omega))
                  have B5_ : Box ((wg.setCell ⟨bB6, 0, none⟩ (.int .i64 (joinL (prL a b (2 + 1))).lo)).setCell ⟨bB6, 1, none⟩ (.int .i64 (joinL (prL a b (2 + 1))).hi)) (w5.heap.size) #[.int .i64 p0, .int .i64 p1, .int .i64 p2, .int .i64 p3] := by simpa using ((B5.out.other (p := ⟨bB6, 0, none⟩) (.int .i64 (joinL (prL a b (2 + 1))).lo) (by first | assumption | (simp; done) | omega)).other (p := ⟨bB6, 1, none⟩) (.int .i64 (joinL (prL a b (2 + 1))).hi) (by first | assumption | (simp; done) | omega))
                  have B6_ : Box ((wg.setCell ⟨bB6, 0, none⟩ (.int .i64 (joinL (prL a b (2 + 1))).lo)).setCell ⟨bB6, 1, none⟩ (.int .i64 (joinL (prL a b (2 + 1))).hi)) (bB6) #[(.int .i64 (joinL (prL a b (2 + 1))).lo), (.int .i64 (joinL (prL a b (2 + 1))).hi)] := by simpa using ((B6.out.set 0 (.int .i64 (joinL (prL a b (2 + 1))).lo)).set 1 (.int .i64 (joinL (prL a b (2 + 1))).hi))
                  have B10_ : Box ((wg.setCell ⟨bB6, 0, none⟩ (.int .i64 (joinL (prL a b (2 + 1))).lo)).setCell ⟨bB6, 1, none⟩ (.int .i64 (joinL (prL a b (2 + 1))).hi)) (bB10) #[.int .i64 out.lo, .int .i64 out.hi, .int .i64 p2, .int .i64 p2] := by simpa using ((B10.out.other (p := ⟨bB6, 0, none⟩) (.int .i64 (joinL (prL a b (2 + 1))).lo) (by first | assumption | (simp; done) | omega)).other (p := ⟨bB6, 1, none⟩) (.int .i64 (joinL (prL a b (2 + 1))).hi) (by first | assumption | (simp; done) | omega))
                  have HW_ : Below w.heap.size w ((wg.setCell ⟨bB6, 0, none⟩ (.int .i64 (joinL (prL a b (2 + 1))).lo)).setCell ⟨bB6, 1, none⟩ (.int .i64 (joinL (prL a b (2 + 1))).hi)) := ((HW.out.setCell (p := ⟨bB6, 0, none⟩) (by first | assumption | omega | (have := HW.out.size; omega) | (simp; omega)) (.int .i64 (joinL (prL a b (2 + 1))).lo)).setCell (p := ⟨bB6, 1, none⟩) (by first | assumption | omega | (have := HW.out.size; omega) | (simp; omega)) (.int .i64 (joinL (prL a b (2 + 1))).hi))
                  clear lB0 cB0 fB0 lB1 cB1 fB1 lB2 cB2 fB2 lB5 cB5 fB5 lB6 cB6 fB6 lB10 cB10 fB10
                  clear B0 B1 B2 B5 B6 B10 HW
                  generalize ((wg.setCell ⟨bB6, 0, none⟩ (.int .i64 (joinL (prL a b (2 + 1))).lo)).setCell ⟨bB6, 1, none⟩ (.int .i64 (joinL (prL a b (2 + 1))).hi)) = wz at *
                  have B0 := Lib.hid B0_
                  clear B0_
                  have B1 := Lib.hid B1_
                  clear B1_
                  have B2 := Lib.hid B2_
                  clear B2_
                  have B5 := Lib.hid B5_
                  clear B5_
                  have B6 := Lib.hid B6_
                  clear B6_
                  have B10 := Lib.hid B10_
                  clear B10_
                  have HW := Lib.hid HW_
                  clear HW_
                  obtain ⟨lB0, cB0, fB0⟩ := B0.out
                  obtain ⟨lB1, cB1, fB1⟩ := B1.out
                  obtain ⟨lB2, cB2, fB2⟩ := B2.out
                  obtain ⟨lB5, cB5, fB5⟩ := B5.out
                  obtain ⟨lB6, cB6, fB6⟩ := B6.out
                  obtain ⟨lB10, cB10, fB10⟩ := B10.out
                  go_wp2
                  go_roundw
                  case rel => exact ⟨2 + 1, _, by omega, by omega, by go_num, rfl, B0.out, B1.out, B2.out, B5.out, B6.out, HW.out⟩
                  case measure => simp [intOf]
                ·
                  have Hp3 := Lib.hid (show pr a b 3 = p3 from P3.out)
                  have HJ := Lib.hid (show joinL [out, ⟨p3, p3⟩] = joinL (prL a b (3 + 1)) by rw [HO.out, ← Hp3.out]; exact joinL_next a b 2)
                  have HOK := Lib.hid (show out.ok by rw [HO.out]; exact joinL_ok _ (prL_ok fun q hq => HPF.out q (by omega)))
                  have HPO := Lib.hid (show Sp.ok ⟨p3, p3⟩ from (by rw [← Hp3.out]; exact ⟨HPF.out 3 (by omega), HPF.out 3 (by omega)⟩))
                  go_wp2
                  refine wp_region_grow 12 (fun k => match k with | 10 => .made wr.heap.size (fun b => .slice (some ⟨b, 0, none⟩) 2 2) #[.int .i64 out.lo, .int .i64 out.hi, .int .i64 p3, .int .i64 p3] | 11 => .const (.agg #[.int .i64 (joinL (prL a b (3 + 1))).lo, .int .i64 (joinL (prL a b (3 + 1))).hi]) | _ => .plain) (by kernel_rfl) (by kernel_rfl) ?_ (fun ν => ?_)
                  · (intro k; (try dsimp only); split <;> first | exact True.intro | (intro u w1 w2 hu hb; exact hu.below hb))
                  simp only [List.take_succ_cons, List.take_zero, List.drop_succ_cons, List.drop_zero]
                  refine Grow.val (v := ?_) rfl rfl (fun wg hbg hdg => ?_) ?_
                  rotate_left
                  focus ((obtain ⟨lg0, cg0, fg0⟩ := B0.out.later hbg); (obtain ⟨lg1, cg1, fg1⟩ := B1.out.later hbg); (obtain ⟨lg2, cg2, fg2⟩ := B2.out.later hbg); (obtain ⟨lg3, cg3, fg3⟩ := B5.out.later hbg); (obtain ⟨lg4, cg4, fg4⟩ := B6.out.later hbg); clear hbg hdg; first | (go_simp; done) | (go_simp; with_reducible rfl))
                  simp only [Act.put, List.setIfInBounds_toArray, List.set_cons_zero, List.set_cons_succ]
                  refine Grow.val (v := ?_) rfl rfl (fun wg hbg hdg => ?_) ?_
                  rotate_left
                  focus ((obtain ⟨lg0, cg0, fg0⟩ := B0.out.later hbg); (obtain ⟨lg1, cg1, fg1⟩ := B1.out.later hbg); (obtain ⟨lg2, cg2, fg2⟩ := B2.out.later hbg); (obtain ⟨lg3, cg3, fg3⟩ := B5.out.later hbg); (obtain ⟨lg4, cg4, fg4⟩ := B6.out.later hbg); clear hbg hdg; first | (go_simp; done) | (go_simp; with_reducible rfl))
                  simp only [Act.put, List.setIfInBounds_toArray, List.set_cons_zero, List.set_cons_succ]
                  refine Grow.val (v := ?_) rfl rfl (fun wg hbg hdg => ?_) ?_
                  rotate_left
                  focus ((obtain ⟨lg0, cg0, fg0⟩ := B0.out.later hbg); (obtain ⟨lg1, cg1, fg1⟩ := B1.out.later hbg); (obtain ⟨lg2, cg2, fg2⟩ := B2.out.later hbg); (obtain ⟨lg3, cg3, fg3⟩ := B5.out.later hbg); (obtain ⟨lg4, cg4, fg4⟩ := B6.out.later hbg); clear hbg hdg; first | (go_simp; done) | (go_simp; with_reducible rfl))
                  simp only [Act.put, List.setIfInBounds_toArray, List.set_cons_zero, List.set_cons_succ]
                  refine Grow.val (v := ?_) rfl rfl (fun wg hbg hdg => ?_) ?_
                  rotate_left
                  focus ((obtain ⟨lg0, cg0, fg0⟩ := B0.out.later hbg); (obtain ⟨lg1, cg1, fg1⟩ := B1.out.later hbg); (obtain ⟨lg2, cg2, fg2⟩ := B2.out.later hbg); (obtain ⟨lg3, cg3, fg3⟩ := B5.out.later hbg); (obtain ⟨lg4, cg4, fg4⟩ := B6.out.later hbg); clear hbg hdg; first | (go_simp; done) | (go_simp; with_reducible rfl))
                  simp only [Act.put, List.setIfInBounds_toArray, List.set_cons_zero, List.set_cons_succ]
                  refine Grow.val (v := ?_) rfl rfl (fun wg hbg hdg => ?_) ?_
                  rotate_left
                  focus ((obtain ⟨lg0, cg0, fg0⟩ := B0.out.later hbg); (obtain ⟨lg1, cg1, fg1⟩ := B1.out.later hbg); (obtain ⟨lg2, cg2, fg2⟩ := B2.out.later hbg); (obtain ⟨lg3, cg3, fg3⟩ := B5.out.later hbg); (obtain ⟨lg4, cg4, fg4⟩ := B6.out.later hbg); clear hbg hdg; first | (go_simp; done) | (go_simp; with_reducible rfl))
                  simp only [Act.put, List.setIfInBounds_toArray, List.set_cons_zero, List.set_cons_succ]
                  refine Grow.val (v := ?_) rfl rfl (fun wg hbg hdg => ?_) ?_
                  rotate_left
                  focus ((obtain ⟨lg0, cg0, fg0⟩ := B0.out.later hbg); (obtain ⟨lg1, cg1, fg1⟩ := B1.out.later hbg); (obtain ⟨lg2, cg2, fg2⟩ := B2.out.later hbg); (obtain ⟨lg3, cg3, fg3⟩ := B5.out.later hbg); (obtain ⟨lg4, cg4, fg4⟩ := B6.out.later hbg); clear hbg hdg; first | (go_simp; done) | (go_simp; with_reducible rfl))
                  simp only [Act.put, List.setIfInBounds_toArray, List.set_cons_zero, List.set_cons_succ]
                  refine Grow.val (v := ?_) rfl rfl (fun wg hbg hdg => ?_) ?_
                  rotate_left
                  focus ((obtain ⟨lg0, cg0, fg0⟩ := B0.out.later hbg); (obtain ⟨lg1, cg1, fg1⟩ := B1.out.later hbg); (obtain ⟨lg2, cg2, fg2⟩ := B2.out.later hbg); (obtain ⟨lg3, cg3, fg3⟩ := B5.out.later hbg); (obtain ⟨lg4, cg4, fg4⟩ := B6.out.later hbg); clear hbg hdg; first | (go_simp; done) | (go_simp; with_reducible rfl))
                  simp only [Act.put, List.setIfInBounds_toArray, List.set_cons_zero, List.set_cons_succ]
                  refine Grow.val (v := ?_) rfl rfl (fun wg hbg hdg => ?_) ?_
                  rotate_left
                  focus ((obtain ⟨lg0, cg0, fg0⟩ := B0.out.later hbg); (obtain ⟨lg1, cg1, fg1⟩ := B1.out.later hbg); (obtain ⟨lg2, cg2, fg2⟩ := B2.out.later hbg); (obtain ⟨lg3, cg3, fg3⟩ := B5.out.later hbg); (obtain ⟨lg4, cg4, fg4⟩ := B6.out.later hbg); clear hbg hdg; first | (go_simp; done) | (go_simp; with_reducible rfl))
                  simp only [Act.put, List.setIfInBounds_toArray, List.set_cons_zero, List.set_cons_succ]
                  refine Grow.val (v := ?_) rfl rfl (fun wg hbg hdg => ?_) ?_
                  rotate_left
                  focus ((obtain ⟨lg0, cg0, fg0⟩ := B0.out.later hbg); (obtain ⟨lg1, cg1, fg1⟩ := B1.out.later hbg); (obtain ⟨lg2, cg2, fg2⟩ := B2.out.later hbg); (obtain ⟨lg3, cg3, fg3⟩ := B5.out.later hbg); (obtain ⟨lg4, cg4, fg4⟩ := B6.out.later hbg); clear hbg hdg; first | (go_simp; done) | (go_simp; with_reducible rfl))
                  simp only [Act.put, List.setIfInBounds_toArray, List.set_cons_zero, List.set_cons_succ]
                  refine Grow.val (v := ?_) rfl rfl (fun wg hbg hdg => ?_) ?_
                  rotate_left
                  focus ((obtain ⟨lg0, cg0, fg0⟩ := B0.out.later hbg); (obtain ⟨lg1, cg1, fg1⟩ := B1.out.later hbg); (obtain ⟨lg2, cg2, fg2⟩ := B2.out.later hbg); (obtain ⟨lg3, cg3, fg3⟩ := B5.out.later hbg); (obtain ⟨lg4, cg4, fg4⟩ := B6.out.later hbg); clear hbg hdg; first | (go_simp; done) | (go_simp; with_reducible rfl))
                  simp only [Act.put, List.setIfInBounds_toArray, List.set_cons_zero, List.set_cons_succ]
                  refine Grow.made (T := ?_) rfl rfl (fun wg hbg hdg => ?_) ?_
                  rotate_left
                  focus ((obtain ⟨lg0, cg0, fg0⟩ := B0.out.later hbg); (obtain ⟨lg1, cg1, fg1⟩ := B1.out.later hbg); (obtain ⟨lg2, cg2, fg2⟩ := B2.out.later hbg); (obtain ⟨lg3, cg3, fg3⟩ := B5.out.later hbg); (obtain ⟨lg4, cg4, fg4⟩ := B6.out.later hbg); clear hbg hdg; first | (go_simp; done) | (go_simp; with_reducible rfl))
                  simp only [Act.put, Known.val, List.setIfInBounds_toArray, List.set_cons_zero, List.set_cons_succ]
                  refine Grow.call (f := ?_) (args := ?_) rfl (fun wg => ?_) (fun wg hbg hdg => ?_) ?_
                  rotate_left 2
                  focus (first | (go_simp; done) | (go_simp; refine And.intro ?_ ?_ <;> with_reducible rfl) | (go_simp; with_reducible rfl))
                  focus ((obtain ⟨bq, hq, _, hX⟩ := hdg 10 (by kernel_rfl)); rw [hq]; exact Calls.mono (HJ.out ▸ refJoin (spans_box2 hX HOK.out HPO.out)) (fun e w2 ⟨he, hb2⟩ => ⟨_, he, rfl, hb2⟩))
                  simp only [Act.put, Known.val, List.setIfInBounds_toArray, List.set_cons_zero, List.set_cons_succ]
                  intro wg hb hf hap
                  obtain ⟨bB10, hνB10, hBB10, hXB10⟩ := hf 10 (by omega)
                  have nB10B0 : bB10 ≠ w.heap.size := fun e => by have := lB0; omega
                  have nB0B10 : w.heap.size ≠ bB10 := fun e => nB10B0 e.symm
                  have nB10B1 : bB10 ≠ w.heap.size + 1 := fun e => by have := lB1; omega
                  have nB1B10 : w.heap.size + 1 ≠ bB10 := fun e => nB10B1 e.symm
                  have nB10B2 : bB10 ≠ w.heap.size + 1 + 1 := fun e => by have := lB2; omega
                  have nB2B10 : w.heap.size + 1 + 1 ≠ bB10 := fun e => nB10B2 e.symm
                  have nB10B5 : bB10 ≠ w5.heap.size := fun e => by have := lB5; omega
                  have nB5B10 : w5.heap.size ≠ bB10 := fun e => nB10B5 e.symm
                  have nB10B6 : bB10 ≠ bB6 := fun e => by have := lB6; omega
                  have nB6B10 : bB6 ≠ bB10 := fun e => nB10B6 e.symm
                  simp only [hνB10]
                  clear hνB10
                  clear hap
                  have gB10 := Nat.le_trans HW.out.size hBB10
                  clear hBB10
                  clear lB0 cB0 fB0 lB1 cB1 fB1 lB2 cB2 fB2 lB5 cB5 fB5 lB6 cB6 fB6
                  replace B0 := Lib.hid (B0.out.later hb)
                  replace B1 := Lib.hid (B1.out.later hb)
                  replace B2 := Lib.hid (B2.out.later hb)
                  replace B5 := Lib.hid (B5.out.later hb)
                  replace B6 := Lib.hid (B6.out.later hb)
                  replace HW := Lib.hid (HW.out.trans (hb.mono HW.out.size))
                  clear hb
                  have B10 := Lib.hid hXB10
                  clear hXB10
                  obtain ⟨lB0, cB0, fB0⟩ := B0.out
                  obtain ⟨lB1, cB1, fB1⟩ := B1.out
                  obtain ⟨lB2, cB2, fB2⟩ := B2.out
                  obtain ⟨lB5, cB5, fB5⟩ := B5.out
                  obtain ⟨lB6, cB6, fB6⟩ := B6.out
                  obtain ⟨lB10, cB10, fB10⟩ := B10.out
                  clear hf
                  go_upto_region 9 with (fail)
                  have B0_ : Box ((wg.setCell ⟨bB6, 0, none⟩ (.int .i64 (joinL (prL a b (3 + 1))).lo)).setCell ⟨bB6, 1, none⟩ (.int .i64 (joinL (prL a b (3 + 1))).hi)) (w.heap.size) #[.int .i64 a.lo, .int .i64 a.hi] := by simpa using ((B0.out.other (p := ⟨bB6, 0, none⟩) (.int .i64 (joinL (prL a b (3 + 1))).lo) (by first | assumption | (simp; done) | omega)).other (p := ⟨bB6, 1, none⟩) (.int .i64 (joinL (prL a b (3 + 1))).hi) (by first | assumption | (simp; done) | omega))
                  have B1_ : Box ((wg.setCell ⟨bB6, 0, none⟩ (.int .i64 (joinL (prL a b (3 + 1))).lo)).setCell ⟨bB6, 1, none⟩ (.int .i64 (joinL (prL a b (3 + 1))).hi)) (w.heap.size + 1) #[.int .i64 b.lo, .int .i64 b.hi] := by simpa using ((B1.out.other (p := ⟨bB6, 0, none⟩) (.int .i64 (joinL (prL a b (3 + 1))).lo) (by first | assumption | (simp; done) | omega)).other (p := ⟨bB6, 1, none⟩) (.int .i64 (joinL (prL a b (3 + 1))).hi) (by first | assumption | (simp; done) | omega))
                  have B2_ : Box ((wg.setCell ⟨bB6, 0, none⟩ (.int .i64 (joinL (prL a b (3 + 1))).lo)).setCell ⟨bB6, 1, none⟩ (.int .i64 (joinL (prL a b (3 + 1))).hi)) (w.heap.size + 1 + 1) #[.int .i64 0, .int .i64 0] := by simpa using ((B2.out.other (p := ⟨bB6, 0, none⟩) (.int .i64 (joinL (prL a b (3 + 1))).lo) (by first | assumption | (simp; done) | omega)).other (p := ⟨bB6, 1, none⟩) (.int .i64 (joinL (prL a b (3 + 1))).hi) (by first | assumption | (simp; done) | omega))
                  have B5_ : Box ((wg.setCell ⟨bB6, 0, none⟩ (.int .i64 (joinL (prL a b (3 + 1))).lo)).setCell ⟨bB6, 1, none⟩ (.int .i64 (joinL (prL a b (3 + 1))).hi)) (w5.heap.size) #[.int .i64 p0, .int .i64 p1, .int .i64 p2, .int .i64 p3] := by simpa using ((B5.out.other (p := ⟨bB6, 0, none⟩) (.int .i64 (joinL (prL a b (3 + 1))).lo) (by first | assumption | (simp; done) | omega)).other (p := ⟨bB6, 1, none⟩) (.int .i64 (joinL (prL a b (3 + 1))).hi) (by first | assumption | (simp; done) | omega))
                  have B6_ : Box ((wg.setCell ⟨bB6, 0, none⟩ (.int .i64 (joinL (prL a b (3 + 1))).lo)).setCell ⟨bB6, 1, none⟩ (.int .i64 (joinL (prL a b (3 + 1))).hi)) (bB6) #[(.int .i64 (joinL (prL a b (3 + 1))).lo), (.int .i64 (joinL (prL a b (3 + 1))).hi)] := by simpa using ((B6.out.set 0 (.int .i64 (joinL (prL a b (3 + 1))).lo)).set 1 (.int .i64 (joinL (prL a b (3 + 1))).hi))
                  have B10_ : Box ((wg.setCell ⟨bB6, 0, none⟩ (.int .i64 (joinL (prL a b (3 + 1))).lo)).setCell ⟨bB6, 1, none⟩ (.int .i64 (joinL (prL a b (3 + 1))).hi)) (bB10) #[.int .i64 out.lo, .int .i64 out.hi, .int .i64 p3, .int .i64 p3] := by simpa using ((B10.out.other (p := ⟨bB6, 0, none⟩) (.int .i64 (joinL (prL a b (3 + 1))).lo) (by first | assumption | (simp; done) | omega)).other (p := ⟨bB6, 1, none⟩) (.int .i64 (joinL (prL a b (3 + 1))).hi) (by first | assumption | (simp; done) | omega))
                  have HW_ : Below w.heap.size w ((wg.setCell ⟨bB6, 0, none⟩ (.int .i64 (joinL (prL a b (3 + 1))).lo)).setCell ⟨bB6, 1, none⟩ (.int .i64 (joinL (prL a b (3 + 1))).hi)) := ((HW.out.setCell (p := ⟨bB6, 0, none⟩) (by first | assumption | omega | (have := HW.out.size; omega) | (simp; omega)) (.int .i64 (joinL (prL a b (3 + 1))).lo)).setCell (p := ⟨bB6, 1, none⟩) (by first | assumption | omega | (have := HW.out.size; omega) | (simp; omega)) (.int .i64 (joinL (prL a b (3 + 1))).hi))
                  clear lB0 cB0 fB0 lB1 cB1 fB1 lB2 cB2 fB2 lB5 cB5 fB5 lB6 cB6 fB6 lB10 cB10 fB10
                  clear B0 B1 B2 B5 B6 B10 HW
                  generalize ((wg.setCell ⟨bB6, 0, none⟩ (.int .i64 (joinL (prL a b (3 + 1))).lo)).setCell ⟨bB6, 1, none⟩ (.int .i64 (joinL (prL a b (3 + 1))).hi)) = wz at *
                  have B0 := Lib.hid B0_
                  clear B0_
                  have B1 := Lib.hid B1_
                  clear B1_
                  have B2 := Lib.hid B2_
                  clear B2_
                  have B5 := Lib.hid B5_
                  clear B5_
                  have B6 := Lib.hid B6_
                  clear B6_
                  have B10 := Lib.hid B10_
                  clear B10_
                  have HW := Lib.hid HW_
                  clear HW_
                  obtain ⟨lB0, cB0, fB0⟩ := B0.out
                  obtain ⟨lB1, cB1, fB1⟩ := B1.out
                  obtain ⟨lB2, cB2, fB2⟩ := B2.out
                  obtain ⟨lB5, cB5, fB5⟩ := B5.out
                  obtain ⟨lB6, cB6, fB6⟩ := B6.out
                  obtain ⟨lB10, cB10, fB10⟩ := B10.out
                  go_wp2
                  go_roundw
                  case rel => exact ⟨3 + 1, _, by omega, by omega, by go_num, rfl, B0.out, B1.out, B2.out, B5.out, B6.out, HW.out⟩
                  case measure => simp [intOf]
                · have HJ := Lib.hid (HM.out.trans HO.out.symm)
                  go_wp2
                  exact bodyPost_ret (v := .agg #[.int .i64 out.lo, .int .i64 out.hi]) (by simp [results, Try.results19, go_sem, *]) rfl ⟨by rw [HJ.out], (HW.out.setCell (by simp; omega) _).setCell (by simp; omega) _⟩
end Go.Proofs.Ytppnmdplojemcaa
