/- The document's test of products. -/
import Derived.Test.YtppnmdplojemcaaSpan6
namespace Go.Proofs.Ytppnmdplojemcaa
set_option linter.unusedSimpArgs false
set_option linter.unusedVariables false
open Go.RowKit

theorem fit_pos (a b x y : Int) (hx : 0 < x) (hy : 0 < y) (h : a * b = x * y) : fitB a b = decide (x ≤ 9223372036854775807 / y) := by
  unfold fitB
  rw [decide_eq_decide, Int.le_ediv_iff_mul_le hy, h]
  have := Int.mul_pos hx hy
  omega
theorem fit_neg (a b x y : Int) (hx : 0 < x) (hy : 0 < y) (h : a * b = -(x * y)) : fitB a b = decide (x ≤ 9223372036854775808 / y) := by
  unfold fitB
  rw [decide_eq_decide, Int.le_ediv_iff_mul_le hy, h]
  have := Int.mul_pos hx hy
  omega

set_option maxHeartbeats 6400000 in
theorem refFits {w : World} (a b : Int) (ha : In64 a) (hb : In64 b) : Calls Try.prog 38 #[.int .i64 a, .int .i64 b] w fun e w' => e = .returned (.bool (fitB a b)) ∧ w' = w := by
  have HA := Lib.hid ha
  have HB := Lib.hid hb
  clear ha hb
  by_cases a0 : a = 0
  · subst a0
    have HF := Lib.hid (show fitB 0 b = true by unfold fitB; simp)
    go_enter Try.func38, Try.ntmps38
    go_wp2
    go_ret
    exact ⟨ret_bool HF.out.symm, rfl⟩
  · by_cases b0 : b = 0
    · subst b0
      have HF := Lib.hid (show fitB a 0 = true by unfold fitB; simp)
      have h1 : (a == 0) = false := by simpa using a0
      go_enter Try.func38, Try.ntmps38
      go_wp2
      go_ret
      exact ⟨ret_bool HF.out.symm, rfl⟩
    · have h1 : (a == 0) = false := by simpa using a0
      have h2 : (b == 0) = false := by simpa using b0
      by_cases am : a = -9223372036854775808
      · subst am
        have HF := Lib.hid (show fitB (-9223372036854775808) b = (b == 1) by unfold fitB; rw [Bool.eq_iff_iff]; simp; omega)
        clear a0 b0
        go_enter Try.func38, Try.ntmps38
        go_wp2
        go_ret
        exact ⟨ret_bool (by rw [HF.out]), rfl⟩
      · by_cases bm : b = -9223372036854775808
        · subst bm
          have HF := Lib.hid (show fitB a (-9223372036854775808) = (a == 1) by unfold fitB; rw [Bool.eq_iff_iff]; simp; omega)
          have h3 : (a == -9223372036854775808) = false := by simpa using am
          clear a0 b0 am
          cases h4 : (a == 1)
          all_goals
            have HG := Lib.hid (HF.out.trans h4)
            clear HF
            go_enter Try.func38, Try.ntmps38
            go_wp2
            go_ret
            exact ⟨ret_bool HG.out.symm, rfl⟩
        · have h3 : (a == -9223372036854775808) = false := by simpa using am
          have h4 : (b == -9223372036854775808) = false := by simpa using bm
          have A1 : -9223372036854775807 ≤ a := by have := HA.out.1; omega
          have A2 := HA.out.2
          have B1 : -9223372036854775807 ≤ b := by have := HB.out.1; omega
          have B2 := HB.out.2
          clear am bm HA HB
          rcases Int.lt_or_gt_of_ne a0 with sa | sa <;> rcases Int.lt_or_gt_of_ne b0 with sb | sb
          · obtain ⟨x, rfl⟩ : ∃ x, a = -x := ⟨-a, by omega⟩
            obtain ⟨y, rfl⟩ : ∃ y, b = -y := ⟨-b, by omega⟩
            have HF := Lib.hid (fit_pos (-x) (-y) x y (by omega) (by omega) (Int.neg_mul_neg x y))
            have d1 : decide (-x < 0) = true := by simp; omega
            have d2 : decide (-y < 0) = true := by simp; omega
            have x0 : 0 < x := by omega
            have y0 : 0 < y := by omega
            have y1 : (y = 0) = False := by simp; omega
            clear a0 b0 sa sb
            go_enter Try.func38, Try.ntmps38
            go_wp2
            all_goals
              go_ret
              exact ⟨ret_bool HF.out.symm, rfl⟩
          · obtain ⟨x, rfl⟩ : ∃ x, a = -x := ⟨-a, by omega⟩
            have HF := Lib.hid (fit_neg (-x) b x b (by omega) (by omega) (by rw [Int.neg_mul]))
            have d1 : decide (-x < 0) = true := by simp; omega
            have d2 : decide (b < 0) = false := by simp; omega
            have b0' : 0 < b := by omega
            have x0 : 0 < x := by omega
            have y1 : (b = 0) = False := by simp; omega
            clear a0 b0 sa sb
            go_enter Try.func38, Try.ntmps38
            go_wp2
            all_goals
              go_ret
              exact ⟨ret_bool HF.out.symm, rfl⟩
          · obtain ⟨y, rfl⟩ : ∃ y, b = -y := ⟨-b, by omega⟩
            have HF := Lib.hid (fit_neg a (-y) a y (by omega) (by omega) (by rw [Int.mul_neg]))
            have d1 : decide (a < 0) = false := by simp; omega
            have a0' : 0 < a := by omega
            have d2 : decide (-y < 0) = true := by simp; omega
            have y0 : 0 < y := by omega
            have y1 : (y = 0) = False := by simp; omega
            clear a0 b0 sa sb
            go_enter Try.func38, Try.ntmps38
            go_wp2
            all_goals
              go_ret
              exact ⟨ret_bool HF.out.symm, rfl⟩
          · have HF := Lib.hid (fit_pos a b a b (by omega) (by omega) rfl)
            have d1 : decide (a < 0) = false := by simp; omega
            have a0' : 0 < a := by omega
            have d2 : decide (b < 0) = false := by simp; omega
            have b0' : 0 < b := by omega
            have y1 : (b = 0) = False := by simp; omega
            clear a0 b0 sa sb
            go_enter Try.func38, Try.ntmps38
            go_wp2
            all_goals
              go_ret
              exact ⟨ret_bool HF.out.symm, rfl⟩
end Go.Proofs.Ytppnmdplojemcaa
