/- ChainSums: the walk. -/
import Derived.Test.YtpocmldhgnphlaaSums2
namespace Go.Proofs.Ytpocmldhgnphlaa
set_option linter.unusedSimpArgs false
set_option linter.unusedVariables false
open Go.RowKit

theorem below_drewN {w w' : World} {B : Nat} (h : Below B w w') (n : Nat) : Below B w (w'.drewN n) := h.trans ⟨rfl, rfl, rfl, Nat.le_refl _, fun _ _ => rfl⟩
theorem isLong_trim (xs : List Int) : isLong (trim xs) = isLong xs := by unfold isLong; rw [trim_trim]

set_option maxHeartbeats 1600000 in
theorem walkSums {w : World} {v : Value} {xs : List Int} {s : Int} (hs : In64 s) (hv : Ints w v xs) :
    Calls Try.prog 4 #[.int .i64 s, v] w fun e w' => e = .returned (.bool true) ∧ Below w.heap.size w w' := by
  go_enter Try.func4, Try.ntmps4
  go_wp2_with fail
  refine (cut 20 (by omega) hv).mono ?_
  rintro e w1 ⟨u, rfl, hu, rfl⟩
  have HU := Lib.hid hu
  have HLE := Lib.hid (List.length_take_le 20 xs)
  clear hu hv
  generalize xs.take 20 = ys at *
  go_wp2_with fail
  refine (chainSums hs (by have := HLE.out; omega) HU.out).mono ?_
  rintro e w2 ⟨a2, n2, c2, rfl, hi2, hb2⟩
  have HB2 := Lib.hid hb2
  have HI2 := Lib.hid hi2
  have HU2 := Lib.hid (HU.out.below hb2)
  obtain ⟨_, _, hf⟩ := hi2.form
  simp only [Value.slice.injEq] at hf
  obtain ⟨-, rfl, -⟩ := hf
  clear hb2 hi2
  have hsum : sumE s ys = (isLong ys || isLong (s :: trim ys)) := by simp [sumE]
  cases h1 : isLong ys
  case true =>
    rw [show sumE s ys = true by rw [hsum, h1]; rfl] at HI2 ⊢
    have H1 := Lib.hid h1
    clear h1 hsum
    simp only [longE, if_true] at HI2 ⊢
    simp only [errOf, if_true]
    go_wp2_with fail
    refine awake.mono ?_
    rintro e w3 ⟨rfl, hb3⟩
    have HB3 := Lib.hid (HB2.out.trans (hb3.mono HB2.out.size))
    have HU3 := Lib.hid (HU2.out.below hb3)
    clear hb3
    go_wp2_with fail
    refine (refLong HU3.out).mono ?_
    rintro e w4 ⟨rfl, hb4⟩
    rw [H1.out]
    have HB4 := Lib.hid (HB3.out.trans (hb4.mono HB3.out.size))
    clear hb4
    go_wp2_with fail
    refine awake.mono ?_
    rintro e w5 ⟨rfl, hb5⟩
    have HB5 := Lib.hid (HB4.out.trans (hb5.mono HB4.out.size))
    clear hb5
    go_wp2
    go_ret
    exact ⟨rfl, HB5.out⟩
  case false =>
    have H1 := Lib.hid h1
    cases h2 : isLong (s :: trim ys)
    case true =>
      rw [show sumE s ys = true by rw [hsum, h1, h2]; rfl] at HI2 ⊢
      have H2 := Lib.hid h2
      clear h1 h2 hsum
      simp only [longE, if_true] at HI2 ⊢
      simp only [errOf, if_true]
      go_wp2_with fail
      refine awake.mono ?_
      rintro e w3 ⟨rfl, hb3⟩
      have HB3 := Lib.hid (HB2.out.trans (hb3.mono HB2.out.size))
      have HU3 := Lib.hid (HU2.out.below hb3)
      clear hb3
      go_wp2_with fail
      refine (refLong HU3.out).mono ?_
      rintro e w4 ⟨rfl, hb4⟩
      rw [H1.out]
      have HB4 := Lib.hid (HB3.out.trans (hb4.mono HB3.out.size))
      have HU4 := Lib.hid (HU3.out.below hb4)
      clear hb4
      go_wp2_with fail
      refine (refTrim HU4.out).mono ?_
      rintro e w5 ⟨u5, rfl, hi5, hb5⟩
      have HB5 := Lib.hid (HB4.out.trans (hb5.mono HB4.out.size))
      have HI5 := Lib.hid hi5
      clear hb5 hi5
      go_wp2_with fail
      refine (refSums hs (Nat.le_trans (trim_le ys) (by have := HLE.out; omega)) HI5.out).mono ?_
      rintro e w6 ⟨u6, rfl, hi6, hb6⟩
      have HB6 := Lib.hid (HB5.out.trans (hb6.mono HB5.out.size))
      have HI6 := Lib.hid hi6
      clear hb6 hi6
      go_wp2_with fail
      refine (refLong HI6.out).mono ?_
      rintro e w7 ⟨rfl, hb7⟩
      rw [isLong_trim, H2.out]
      have HB7 := Lib.hid (HB6.out.trans (hb7.mono HB6.out.size))
      clear hb7
      go_wp2
      go_ret
      exact ⟨rfl, HB7.out⟩
    case false =>
      rw [show sumE s ys = false by rw [hsum, h1, h2]; rfl] at HI2 ⊢
      have H2 := Lib.hid h2
      clear h1 h2 hsum
      simp only [longE] at HI2 ⊢
      simp only [errOf]
      go_wp2_with fail
      refine awake.mono ?_
      rintro e w3 ⟨rfl, hb3⟩
      have HB3 := Lib.hid (HB2.out.trans (hb3.mono HB2.out.size))
      have HU3 := Lib.hid (HU2.out.below hb3)
      have HJ3 := Lib.hid (HI2.out.below hb3)
      clear hb3
      go_wp2_with fail
      refine (refLong HU3.out).mono ?_
      rintro e w4 ⟨rfl, hb4⟩
      rw [H1.out]
      have HB4 := Lib.hid (HB3.out.trans (hb4.mono HB3.out.size))
      have HU4 := Lib.hid (HU3.out.below hb4)
      have HJ4 := Lib.hid (HJ3.out.below hb4)
      clear hb4
      go_wp2_with fail
      refine (refTrim HU4.out).mono ?_
      rintro e w5 ⟨u5, rfl, hi5, hb5⟩
      have HB5 := Lib.hid (HB4.out.trans (hb5.mono HB4.out.size))
      have HI5 := Lib.hid hi5
      have HJ5 := Lib.hid (HJ4.out.below hb5)
      clear hb5 hi5
      go_wp2_with fail
      refine (refSums hs (Nat.le_trans (trim_le ys) (by have := HLE.out; omega)) HI5.out).mono ?_
      rintro e w6 ⟨u6, rfl, hi6, hb6⟩
      have HB6 := Lib.hid (HB5.out.trans (hb6.mono HB5.out.size))
      have HI6 := Lib.hid hi6
      have HJ6 := Lib.hid (HJ5.out.below hb6)
      clear hb6 hi6
      go_wp2_with fail
      refine (refLong HI6.out).mono ?_
      rintro e w7 ⟨rfl, hb7⟩
      rw [isLong_trim, H2.out]
      have HB7 := Lib.hid (HB6.out.trans (hb7.mono HB6.out.size))
      have HI7 := Lib.hid (HI6.out.below hb7)
      have HJ7 := Lib.hid (HJ6.out.below hb7)
      clear hb7
      go_wp2_with fail
      refine (sameInts HJ7.out HI7.out).mono ?_
      rintro e w8 ⟨rfl, nd, rfl⟩
      rw [decide_eq_true (by simp)]
      go_wp2
      go_ret
      exact ⟨rfl, below_drewN HB7.out _⟩
end Go.Proofs.Ytpocmldhgnphlaa
