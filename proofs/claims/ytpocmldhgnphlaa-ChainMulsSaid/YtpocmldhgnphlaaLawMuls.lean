/- ChainMuls: the walk. -/
import Derived.Test.YtpocmldhgnphlaaRefMul
import Derived.Test.YtpocmldhgnphlaaLawSums
namespace Go.Proofs.Ytpocmldhgnphlaa
set_option linter.unusedSimpArgs false
set_option linter.unusedVariables false
open Go.RowKit

set_option maxHeartbeats 3200000 in
theorem walkMuls {w : World} {u v : Value} {xs ys : List Int} (hu : Ints w u xs) (hv : Ints w v ys) :
    Calls Try.prog 7 #[u, v] w fun e w' => e = .returned (.bool true) ∧ Below w.heap.size w w' := by
  have HV0 := Lib.hid hv
  go_enter Try.func7, Try.ntmps7
  go_wp2_with fail
  refine (cut 20 (by omega) hu).mono ?_
  rintro e w1 ⟨u1, rfl, hu1, rfl⟩
  go_wp2_with fail
  refine (cut 20 (by omega) HV0.out).mono ?_
  rintro e w1 ⟨v1, rfl, hv1, rfl⟩
  have HU := Lib.hid hu1
  have HV := Lib.hid hv1
  have HLX := Lib.hid (List.length_take_le 20 xs)
  have HLY := Lib.hid (List.length_take_le 20 ys)
  have HB1 := Lib.hid (Below.refl w1.heap.size w1)
  clear hu hv hu1 hv1 HV0
  generalize xs.take 20 = ps at *
  generalize ys.take 20 = qs at *
  obtain ⟨au, cu, rfl⟩ := HU.out.form
  obtain ⟨av, cv, rfl⟩ := HV.out.form
  have hLX := HLX.out
  have hLY := HLY.out
  generalize HQ1 : ps.length = lu at *
  generalize HQ2 : qs.length = lv at *
  have HL1 := Lib.hid HQ1
  have HL2 := Lib.hid HQ2
  clear HQ1 HQ2
  go_wp2_with fail
  refine (chainMul HU.out HV.out).mono ?_
  rintro e w2 ⟨a2, n2, c2, rfl, hi2, hb2⟩
  have HB2 := Lib.hid (HB1.out.trans (hb2.mono HB1.out.size))
  have HU2 := Lib.hid (HU.out.below hb2)
  have HV2 := Lib.hid (HV.out.below hb2)
  have HM2 := Lib.hid hi2
  clear hb2 hi2
  obtain ⟨_, _, hf⟩ := HM2.out.form
  simp only [Value.slice.injEq] at hf
  obtain ⟨-, rfl, -⟩ := hf
  cases h1 : isLong ps
  case true =>
    have H1 := Lib.hid h1
    rw [show mulE ps qs = true by unfold mulE; simp [h1]] at HM2 ⊢
    clear h1
    simp only [longE, if_true] at HM2 ⊢
    simp only [errOf, if_true]
    go_wp2_with fail
    refine (awake).mono ?_
    rintro e w3 ⟨rfl, hb3⟩
    have HB3 := Lib.hid (HB2.out.trans (hb3.mono HB2.out.size))
    have HU3 := Lib.hid (HU2.out.below hb3)
    have HV3 := Lib.hid (HV2.out.below hb3)
    have HM3 := Lib.hid (HM2.out.below hb3)
    clear hb3
    go_wp2_with fail
    refine (refLong HU3.out).mono ?_
    rintro e w4 ⟨rfl, hb4⟩
    have HB4 := Lib.hid (HB3.out.trans (hb4.mono HB3.out.size))
    have HU4 := Lib.hid (HU3.out.below hb4)
    have HV4 := Lib.hid (HV3.out.below hb4)
    have HM4 := Lib.hid (HM3.out.below hb4)
    clear hb4
    rw [H1.out]
    go_wp2_with fail
    refine (awake).mono ?_
    rintro e w5 ⟨rfl, hb5⟩
    have HB5 := Lib.hid (HB4.out.trans (hb5.mono HB4.out.size))
    have HU5 := Lib.hid (HU4.out.below hb5)
    have HV5 := Lib.hid (HV4.out.below hb5)
    have HM5 := Lib.hid (HM4.out.below hb5)
    clear hb5
    go_wp2
    go_ret
    exact ⟨rfl, HB5.out⟩
  case false =>
    have H1 := Lib.hid h1
    cases h2 : isLong qs
    case true =>
      have H2 := Lib.hid h2
      rw [show mulE ps qs = true by unfold mulE; simp [h1, h2]] at HM2 ⊢
      clear h1 h2
      simp only [longE, if_true] at HM2 ⊢
      simp only [errOf, if_true]
      go_wp2_with fail
      refine (awake).mono ?_
      rintro e w3 ⟨rfl, hb3⟩
      have HB3 := Lib.hid (HB2.out.trans (hb3.mono HB2.out.size))
      have HU3 := Lib.hid (HU2.out.below hb3)
      have HV3 := Lib.hid (HV2.out.below hb3)
      have HM3 := Lib.hid (HM2.out.below hb3)
      clear hb3
      go_wp2_with fail
      refine (refLong HU3.out).mono ?_
      rintro e w4 ⟨rfl, hb4⟩
      have HB4 := Lib.hid (HB3.out.trans (hb4.mono HB3.out.size))
      have HU4 := Lib.hid (HU3.out.below hb4)
      have HV4 := Lib.hid (HV3.out.below hb4)
      have HM4 := Lib.hid (HM3.out.below hb4)
      clear hb4
      rw [H1.out]
      go_wp2_with fail
      refine (refLong HV4.out).mono ?_
      rintro e w5 ⟨rfl, hb5⟩
      have HB5 := Lib.hid (HB4.out.trans (hb5.mono HB4.out.size))
      have HU5 := Lib.hid (HU4.out.below hb5)
      have HV5 := Lib.hid (HV4.out.below hb5)
      have HM5 := Lib.hid (HM4.out.below hb5)
      clear hb5
      rw [H2.out]
      go_wp2_with fail
      refine (awake).mono ?_
      rintro e w6 ⟨rfl, hb6⟩
      have HB6 := Lib.hid (HB5.out.trans (hb6.mono HB5.out.size))
      have HU6 := Lib.hid (HU5.out.below hb6)
      have HV6 := Lib.hid (HV5.out.below hb6)
      have HM6 := Lib.hid (HM5.out.below hb6)
      clear hb6
      go_wp2
      go_ret
      exact ⟨rfl, HB6.out⟩
    case false =>
      have H2 := Lib.hid h2
      rw [mulE_of (xs := ps) (ys := qs) (by simp [h1, h2])] at HM2 ⊢
      clear h1 h2
      cases h3 : isLong (mulOut ps qs)
      case true =>
        have H3 := Lib.hid h3
        rw [h3] at HM2
        clear h3
        simp only [longE, if_true] at HM2 ⊢
        simp only [errOf, if_true]
        go_wp2_with fail
        refine (awake).mono ?_
        rintro e w3 ⟨rfl, hb3⟩
        have HB3 := Lib.hid (HB2.out.trans (hb3.mono HB2.out.size))
        have HU3 := Lib.hid (HU2.out.below hb3)
        have HV3 := Lib.hid (HV2.out.below hb3)
        have HM3 := Lib.hid (HM2.out.below hb3)
        clear hb3
        go_wp2_with fail
        refine (refLong HU3.out).mono ?_
        rintro e w4 ⟨rfl, hb4⟩
        have HB4 := Lib.hid (HB3.out.trans (hb4.mono HB3.out.size))
        have HU4 := Lib.hid (HU3.out.below hb4)
        have HV4 := Lib.hid (HV3.out.below hb4)
        have HM4 := Lib.hid (HM3.out.below hb4)
        clear hb4
        rw [H1.out]
        go_wp2_with fail
        refine (refLong HV4.out).mono ?_
        rintro e w5 ⟨rfl, hb5⟩
        have HB5 := Lib.hid (HB4.out.trans (hb5.mono HB4.out.size))
        have HU5 := Lib.hid (HU4.out.below hb5)
        have HV5 := Lib.hid (HV4.out.below hb5)
        have HM5 := Lib.hid (HM4.out.below hb5)
        clear hb5
        rw [H2.out]
        go_wp2_with fail
        refine (refTrim HU5.out).mono ?_
        rintro e w6 ⟨u6, rfl, hi6, hb6⟩
        have HB6 := Lib.hid (HB5.out.trans (hb6.mono HB5.out.size))
        have HU6 := Lib.hid (HU5.out.below hb6)
        have HV6 := Lib.hid (HV5.out.below hb6)
        have HM6 := Lib.hid (HM5.out.below hb6)
        have HT6 := Lib.hid hi6
        clear hb6 hi6
        go_wp2_with fail
        refine (refTrim HV6.out).mono ?_
        rintro e w7 ⟨u7, rfl, hi7, hb7⟩
        have HB7 := Lib.hid (HB6.out.trans (hb7.mono HB6.out.size))
        have HU7 := Lib.hid (HU6.out.below hb7)
        have HV7 := Lib.hid (HV6.out.below hb7)
        have HM7 := Lib.hid (HM6.out.below hb7)
        have HT7 := Lib.hid (HT6.out.below hb7)
        have HS7 := Lib.hid hi7
        clear hb7 hi7
        go_wp2_with fail
        refine (refMul (Nat.le_trans (trim_le ps) (by have := HL1.out; omega)) (Nat.le_trans (trim_le qs) (by have := HL2.out; omega)) HT7.out HS7.out).mono ?_
        rintro e w8 ⟨u8, rfl, hi8, hb8⟩
        rw [mulL_trim] at hi8
        have HB8 := Lib.hid (HB7.out.trans (hb8.mono HB7.out.size))
        have HU8 := Lib.hid (HU7.out.below hb8)
        have HV8 := Lib.hid (HV7.out.below hb8)
        have HM8 := Lib.hid (HM7.out.below hb8)
        have HT8 := Lib.hid (HT7.out.below hb8)
        have HS8 := Lib.hid (HS7.out.below hb8)
        have HP8 := Lib.hid hi8
        clear hb8 hi8
        go_wp2_with fail
        refine (refLong HP8.out).mono ?_
        rintro e w9 ⟨rfl, hb9⟩
        have HB9 := Lib.hid (HB8.out.trans (hb9.mono HB8.out.size))
        have HU9 := Lib.hid (HU8.out.below hb9)
        have HV9 := Lib.hid (HV8.out.below hb9)
        have HM9 := Lib.hid (HM8.out.below hb9)
        have HT9 := Lib.hid (HT8.out.below hb9)
        have HS9 := Lib.hid (HS8.out.below hb9)
        have HP9 := Lib.hid (HP8.out.below hb9)
        clear hb9
        rw [isLong_trim, H3.out]
        go_wp2
        go_ret
        exact ⟨rfl, HB9.out⟩
      case false =>
        have H3 := Lib.hid h3
        rw [h3] at HM2
        clear h3
        simp only [longE] at HM2 ⊢
        simp only [errOf]
        go_wp2_with fail
        refine (awake).mono ?_
        rintro e w3 ⟨rfl, hb3⟩
        have HB3 := Lib.hid (HB2.out.trans (hb3.mono HB2.out.size))
        have HU3 := Lib.hid (HU2.out.below hb3)
        have HV3 := Lib.hid (HV2.out.below hb3)
        have HM3 := Lib.hid (HM2.out.below hb3)
        clear hb3
        go_wp2_with fail
        refine (refLong HU3.out).mono ?_
        rintro e w4 ⟨rfl, hb4⟩
        have HB4 := Lib.hid (HB3.out.trans (hb4.mono HB3.out.size))
        have HU4 := Lib.hid (HU3.out.below hb4)
        have HV4 := Lib.hid (HV3.out.below hb4)
        have HM4 := Lib.hid (HM3.out.below hb4)
        clear hb4
        rw [H1.out]
        go_wp2_with fail
        refine (refLong HV4.out).mono ?_
        rintro e w5 ⟨rfl, hb5⟩
        have HB5 := Lib.hid (HB4.out.trans (hb5.mono HB4.out.size))
        have HU5 := Lib.hid (HU4.out.below hb5)
        have HV5 := Lib.hid (HV4.out.below hb5)
        have HM5 := Lib.hid (HM4.out.below hb5)
        clear hb5
        rw [H2.out]
        go_wp2_with fail
        refine (refTrim HU5.out).mono ?_
        rintro e w6 ⟨u6, rfl, hi6, hb6⟩
        have HB6 := Lib.hid (HB5.out.trans (hb6.mono HB5.out.size))
        have HU6 := Lib.hid (HU5.out.below hb6)
        have HV6 := Lib.hid (HV5.out.below hb6)
        have HM6 := Lib.hid (HM5.out.below hb6)
        have HT6 := Lib.hid hi6
        clear hb6 hi6
        go_wp2_with fail
        refine (refTrim HV6.out).mono ?_
        rintro e w7 ⟨u7, rfl, hi7, hb7⟩
        have HB7 := Lib.hid (HB6.out.trans (hb7.mono HB6.out.size))
        have HU7 := Lib.hid (HU6.out.below hb7)
        have HV7 := Lib.hid (HV6.out.below hb7)
        have HM7 := Lib.hid (HM6.out.below hb7)
        have HT7 := Lib.hid (HT6.out.below hb7)
        have HS7 := Lib.hid hi7
        clear hb7 hi7
        go_wp2_with fail
        refine (refMul (Nat.le_trans (trim_le ps) (by have := HL1.out; omega)) (Nat.le_trans (trim_le qs) (by have := HL2.out; omega)) HT7.out HS7.out).mono ?_
        rintro e w8 ⟨u8, rfl, hi8, hb8⟩
        rw [mulL_trim] at hi8
        have HB8 := Lib.hid (HB7.out.trans (hb8.mono HB7.out.size))
        have HU8 := Lib.hid (HU7.out.below hb8)
        have HV8 := Lib.hid (HV7.out.below hb8)
        have HM8 := Lib.hid (HM7.out.below hb8)
        have HT8 := Lib.hid (HT7.out.below hb8)
        have HS8 := Lib.hid (HS7.out.below hb8)
        have HP8 := Lib.hid hi8
        clear hb8 hi8
        go_wp2_with fail
        refine (refLong HP8.out).mono ?_
        rintro e w9 ⟨rfl, hb9⟩
        have HB9 := Lib.hid (HB8.out.trans (hb9.mono HB8.out.size))
        have HU9 := Lib.hid (HU8.out.below hb9)
        have HV9 := Lib.hid (HV8.out.below hb9)
        have HM9 := Lib.hid (HM8.out.below hb9)
        have HT9 := Lib.hid (HT8.out.below hb9)
        have HS9 := Lib.hid (HS8.out.below hb9)
        have HP9 := Lib.hid (HP8.out.below hb9)
        clear hb9
        rw [isLong_trim, H3.out]
        go_wp2_with fail
        refine (sameInts HM9.out HP9.out).mono ?_
        rintro e w10 ⟨rfl, nd10, rfl⟩
        have HB10 := Lib.hid (below_drewN HB9.out nd10)
        have HU10 := Lib.hid (HU9.out.drewN nd10)
        have HV10 := Lib.hid (HV9.out.drewN nd10)
        have HM10 := Lib.hid (HM9.out.drewN nd10)
        have HT10 := Lib.hid (HT9.out.drewN nd10)
        have HS10 := Lib.hid (HS9.out.drewN nd10)
        have HP10 := Lib.hid (HP9.out.drewN nd10)
        rw [decide_eq_true (by simp)]
        go_wp2
        go_ret
        exact ⟨rfl, HB10.out⟩
end Go.Proofs.Ytpocmldhgnphlaa
