/- Products that fit: the program's test and the document's. -/
import Derived.Test.YtppnmdplojemcaaSpanIn
namespace Go.Proofs.Ytppnmdplojemcaa
set_option linter.unusedSimpArgs false
set_option linter.unusedVariables false
open Go.RowKit

def fitB (a b : Int) : Bool := decide (-9223372036854775808 ≤ a * b ∧ a * b ≤ 9223372036854775807)
theorem fitB_iff (a b : Int) : fitB a b = true ↔ In64 (a * b) := by unfold fitB In64; simp
theorem fitB_not (a b : Int) : fitB a b = false ↔ ¬ In64 (a * b) := by rw [← fitB_iff]; simp

theorem tdiv_mul_self (a b : Int) (hb : b ≠ 0) : (a * b).tdiv b = a := Int.mul_tdiv_cancel a hb
theorem tdiv_spec (p b : Int) : p = b * p.tdiv b + p.tmod b := (Int.mul_tdiv_add_tmod p b).symm
theorem tmod_lt (p b : Int) (hb : b ≠ 0) : (p.tmod b).natAbs < b.natAbs := by
  rw [Int.natAbs_tmod]; exact Nat.mod_lt _ (by omega)
theorem abs_mul_le {x y c d : Int} (hx : x.natAbs ≤ c.natAbs) (hy : y.natAbs ≤ d.natAbs) : (x * y).natAbs ≤ (c * d).natAbs := by
  rw [Int.natAbs_mul, Int.natAbs_mul]; exact Nat.mul_le_mul hx hy

/-- A quotient that gives the factor back says that the product fits. -/
theorem quo_fits (a b : Int) (ha : In64 a) (hb : In64 b) (h0 : b ≠ 0) (h1 : ¬ (a = -9223372036854775808 ∧ b = -1)) (h2 : ¬ (b = -9223372036854775808 ∧ a = -1)) :
    (wrap64 ((wrap64 (a * b)).tdiv b) == a) = fitB a b := by
  rw [Bool.eq_iff_iff, fitB_iff, beq_iff_eq]
  constructor
  · intro h
    obtain ⟨k, hk⟩ := wrap_mod (a * b)
    have hp := wrap_In (a * b)
    generalize hpe : wrap64 (a * b) = p at *
    have hs := tdiv_spec p b
    have hm := tmod_lt p b h0
    have hq : In64 (p.tdiv b) ∨ (p = -9223372036854775808 ∧ b = -1) := by
      by_cases e : b = -1
      · subst e
        by_cases e2 : p = -9223372036854775808
        · exact .inr ⟨e2, rfl⟩
        · left
          have : p.tdiv (-1) = -p := by simp
          rw [this]; unfold In64 at *; omega
      · left
        have hle : (p.tdiv b).natAbs ≤ p.natAbs := by rw [Int.natAbs_tdiv]; exact Nat.div_le_self _ _
        by_cases e1 : b = 1
        · subst e1; simpa using hp
        · have h3 : (p.tdiv b).natAbs * 2 ≤ p.natAbs := by
            rw [Int.natAbs_tdiv]
            have hb2 : 2 ≤ b.natAbs := by omega
            calc p.natAbs / b.natAbs * 2 ≤ p.natAbs / b.natAbs * b.natAbs := Nat.mul_le_mul_left _ hb2
              _ ≤ p.natAbs := Nat.div_mul_le_self _ _
          unfold In64 at *; omega
    rcases hq with hq | ⟨e1, e2⟩
    · rw [wrap_in hq] at h
      rw [h] at hs
      have hc : b * a = a * b := Int.mul_comm _ _
      rw [hc] at hs
      have : k = 0 := by
        obtain ⟨b1, b2⟩ := hb
        have hbn : b.natAbs ≤ 9223372036854775808 := by omega
        omega
      subst this
      rw [show a * b = p by omega]; exact hp
    · subst e1 e2
      simp at h
      exact absurd ⟨(by rw [← h]; unfold wrap64; omega), rfl⟩ h1
  · intro h
    rw [wrap_in h, tdiv_mul_self _ _ h0, wrap_in ha]

theorem times_ok (a b : Int) (ha : In64 a) (hb : In64 b) (h0 : b ≠ 0) :
    fitB a b = ((wrap64 ((wrap64 (a * b)).tdiv b) == a) && !((a == -9223372036854775808) && (b == -1)) && !((b == -9223372036854775808) && (a == -1))) := by
  by_cases c1 : a = -9223372036854775808 ∧ b = -1
  · obtain ⟨rfl, rfl⟩ := c1
    simp [fitB]
  · by_cases c2 : b = -9223372036854775808 ∧ a = -1
    · obtain ⟨rfl, rfl⟩ := c2
      simp [fitB]
    · rw [quo_fits a b ha hb h0 c1 c2]
      have e1 : ((a == -9223372036854775808) && (b == -1)) = false := by simpa using fun h1 h2 => c1 ⟨h1, h2⟩
      have e2 : ((b == -9223372036854775808) && (a == -1)) = false := by simpa using fun h1 h2 => c2 ⟨h1, h2⟩
      rw [e1, e2]; simp

set_option maxHeartbeats 6400000 in
theorem spanTimes {w : World} (a b : Int) (ha : In64 a) (hb : In64 b) : Calls Try.prog 37 #[.int .i64 a, .int .i64 b] w fun e w' => e = .returned (.tuple #[.int .i64 (wrap64 (a * b)), .bool (fitB a b)]) ∧ w' = w := by
  have HA := Lib.hid ha
  have HB := Lib.hid hb
  clear ha hb
  by_cases a0 : a = 0
  · subst a0
    have HF := Lib.hid (show fitB 0 b = true by unfold fitB; simp)
    go_enter Try.func37, Try.ntmps37
    go_wp2
    go_ret2
    exact ⟨ret_two (by rw [Int.zero_mul, wrap_zero]; rfl) (by rw [HF.out]; rfl), rfl⟩
  · by_cases b0 : b = 0
    · subst b0
      have HF := Lib.hid (show fitB a 0 = true by unfold fitB; simp)
      have h1 : (a == 0) = false := by simpa using a0
      go_enter Try.func37, Try.ntmps37
      go_wp2
      go_ret2
      exact ⟨ret_two (by rw [Int.mul_zero, wrap_zero]; rfl) (by rw [HF.out]; rfl), rfl⟩
    · have h1 : (a == 0) = false := by simpa using a0
      have h2 : (b == 0) = false := by simpa using b0
      have h3 : (b = 0) = False := by simpa using b0
      have HF := Lib.hid (times_ok a b HA.out HB.out b0)
      clear a0 b0
      cases hq : (wrap64 ((wrap64 (a * b)).tdiv b) == a) <;> cases m1 : (a == -9223372036854775808) <;> cases m2 : (b == -1) <;> cases m3 : (b == -9223372036854775808) <;> cases m4 : (a == -1)
      all_goals
        have HR := Lib.hid (HF.out.trans (by rw [hq, m1, m2, m3, m4]))
        clear HF
        go_enter Try.func37, Try.ntmps37
        go_wp2
        go_ret2
        exact ⟨ret_two rfl (by rw [HR.out]; rfl), rfl⟩
end Go.Proofs.Ytppnmdplojemcaa
