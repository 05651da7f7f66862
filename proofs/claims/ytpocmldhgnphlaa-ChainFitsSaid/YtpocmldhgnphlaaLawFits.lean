/- ChainFits: the walk. -/
import Derived.Test.YtpocmldhgnphlaaSums
namespace Go.Proofs.Ytpocmldhgnphlaa
set_option linter.unusedSimpArgs false
set_option linter.unusedVariables false
open Go.RowKit

set_option maxHeartbeats 1600000 in
theorem walkFits {w : World} {v : Value} {xs : List Int} (hv : Ints w v xs) :
    Calls Try.prog 5 #[v] w fun e w' => e = .returned (.bool true) ∧ Below w.heap.size w w' := by
  go_enter Try.func5, Try.ntmps5
  go_wp2_with fail
  refine (cut 30 (by omega) hv).mono ?_
  rintro e w1 ⟨u, rfl, hu, rfl⟩
  have HU := Lib.hid hu
  clear hu hv
  generalize xs.take 30 = ys at *
  obtain ⟨a, c, rfl⟩ := HU.out.form
  have hle := HU.out.le
  go_wp2_with fail
  refine (chainFit HU.out).mono ?_
  rintro e w2 ⟨a2, n2, c2, rfl, hi2, hb2⟩
  have HB2 := Lib.hid hb2
  have HI2 := Lib.hid hi2
  have HU2 := Lib.hid (HU.out.below hb2)
  obtain ⟨_, _, hf⟩ := hi2.form
  simp only [Value.slice.injEq] at hf
  obtain ⟨-, rfl, -⟩ := hf
  clear hb2 hi2
  by_cases hlong : 16 < ys.length
  · rw [decide_eq_true hlong] at HI2 ⊢
    simp only [longE, if_true] at HI2 ⊢
    simp only [errOf, if_true]
    go_wp2_with fail
    refine awake.mono ?_
    rintro e w3 ⟨rfl, hb3⟩
    have HB3 := Lib.hid (HB2.out.trans (hb3.mono HB2.out.size))
    clear hb3
    go_wp2_with fail
    refine awake.mono ?_
    rintro e w4 ⟨rfl, hb4⟩
    have HB4 := Lib.hid (HB3.out.trans (hb4.mono HB3.out.size))
    clear hb4
    go_wp2
    go_ret
    exact ⟨rfl, HB4.out⟩
  · rw [decide_eq_false hlong] at HI2 ⊢
    simp only [longE] at HI2 ⊢
    simp only [errOf]
    go_wp2_with fail
    refine awake.mono ?_
    rintro e w3 ⟨rfl, hb3⟩
    have HI3 := Lib.hid (HI2.out.below hb3)
    have HU3 := Lib.hid (HU2.out.below hb3)
    have HB3 := Lib.hid (HB2.out.trans (hb3.mono HB2.out.size))
    clear hb3
    go_wp2_with fail
    refine (refFit HU3.out).mono ?_
    rintro e w4 ⟨u4, rfl, hi4, hb4⟩
    have HI4 := Lib.hid hi4
    have HI5 := Lib.hid (HI3.out.below hb4)
    have HB4 := Lib.hid (HB3.out.trans (hb4.mono HB3.out.size))
    clear hb4 hi4
    go_wp2_with fail
    refine (sameInts HI5.out HI4.out).mono ?_
    rintro e w5 ⟨rfl, nd, rfl⟩
    rw [decide_eq_true (by simp)]
    go_wp2
    go_ret
    exact ⟨rfl, HB4.out.trans ⟨rfl, rfl, rfl, Nat.le_refl _, fun _ _ => rfl⟩⟩
end Go.Proofs.Ytpocmldhgnphlaa
