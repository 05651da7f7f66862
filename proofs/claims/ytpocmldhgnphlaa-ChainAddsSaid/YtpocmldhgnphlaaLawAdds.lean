/- ChainAdds: for every list of chains the program's sum is the reference's, and is refused where one of them is too long. No condition. -/
import Derived.Test.YtpocmldhgnphlaaRefAdd
namespace Go.Proofs.Ytpocmldhgnphlaa
set_option linter.unusedSimpArgs false
set_option linter.unusedVariables false
open Go.RowKit Go.ChangeShapes Go.WideShapes Go.ChangeAt

theorem any_take {xss : List (List Int)} {k : Nat} (h : k < xss.length) : (xss.take (k + 1)).any isLong = ((xss.take k).any isLong || isLong (xss.getD k [])) := by
  have e : xss.take (k + 1) = xss.take k ++ [xss.getD k []] := by
    rw [List.take_add_one, List.getD_eq_getElem?_getD, List.getElem?_eq_getElem h]; rfl
  rw [e, List.any_append, List.any_cons, List.any_nil, Bool.or_false]

set_option maxHeartbeats 800000 in
theorem walkAdds {w : World} {v : Value} {xss : List (List Int)} (hv : Lists w v xss) :
    Calls Try.prog 3 #[v] w fun e w' => e = .returned (.bool true) ∧ Below w.heap.size w w' := by
  obtain ⟨vs, a, c, b, o, rfl, hc, hm, hn, -, -, -⟩ := hv.parts
  have hcase : (20 < xss.length ∧ decide ((20 : Int) < (xss.length : Nat)) = true ∧ ∃ zss, zss.length = 20 ∧ Lists w (.slice a 20 c) zss) ∨ (¬ 20 < xss.length ∧ decide ((20 : Int) < (xss.length : Nat)) = false ∧ ∃ zss, zss.length = xss.length ∧ Lists w (.slice a xss.length c) zss) := by
    by_cases h : 20 < xss.length
    · exact .inl ⟨h, by simp; omega, xss.take 20, by rw [List.length_take]; omega, hv.take (by omega)⟩
    · exact .inr ⟨h, by simp; omega, xss, rfl, hv⟩
  clear hv
  generalize xss.length = n at *
  rcases hcase with ⟨h20, hdec, zss, hl, hL⟩ | ⟨h20, hdec, zss, hl, hL⟩
  all_goals
    have HL := Lib.hid hL
    obtain ⟨vs, a', c', b', o', hf, -, -, -, ha, hx, hi⟩ := hL.parts
    simp only [Value.slice.injEq] at hf
    obtain ⟨rfl, -, rfl⟩ := hf
    have HX := Lib.hid hx
    have HI := Lib.hid hi
    have HA := Lib.hid ha
    have hzl : zss.length ≤ 20 := by omega
    have G := Lib.hid hl
    clear hx hi hL ha
    go_enter Try.func3, Try.ntmps3
    go_wp2
    go_loopw [3, 4] (fun x i wr => ∃ k : Nat, k ≤ zss.length ∧ i = .int .i64 k ∧ x = .bool ((zss.take k).any isLong) ∧ Below w.heap.size w wr) (fun _ i _ => zss.length - (intOf i).toNat)
    case atStart => exact ⟨0, by omega, rfl, rfl, Below.refl _ _⟩
    case round =>
      obtain ⟨k, hk, rfl, rfl, hb⟩ := hrel
      by_cases hlt : k < zss.length
      · obtain ⟨rfl, hbw⟩ := HA.out (by omega)
        have hcell : wr.cell? ⟨b', o' + k, none⟩ = some (vs.getD k undef) := (hb.cell hbw).trans (HX.out k hlt)
        have HIK := Lib.hid ((HI.out k hlt).below hb)
        have HB := Lib.hid hb
        have HT := Lib.hid (any_take hlt)
        clear hb HA
        generalize vs.getD k undef = u at *
        generalize zss.getD k [] = ys at *
        cases hany : (zss.take k).any isLong
        case true =>
          rw [hany] at HT
          clear hany
          go_wp2
          go_roundw
          case rel => exact ⟨k + 1, by omega, by go_num, by rw [HT.out]; rfl, HB.out⟩
          case measure => simp [intOf]; omega
        case false =>
          rw [hany] at HT
          clear hany
          go_wp2_with fail
          refine (refLong HIK.out).mono ?_
          rintro e w2 ⟨rfl, hb2⟩
          have HB2 := Lib.hid (HB.out.trans (hb2.mono HB.out.size))
          clear hb2
          generalize isLong ys = ly at *
          go_wp2
          go_roundw
          case rel => exact ⟨k + 1, by omega, by go_num, by rw [HT.out]; rfl, HB2.out⟩
          case measure => simp [intOf]; omega
      · obtain rfl : k = zss.length := by omega
        have HB := Lib.hid hb
        clear hb
        rw [List.take_length]
        go_wp2_with fail
        refine (chainAdd (HL.out.below HB.out)).mono ?_
        rintro e w2 ⟨a2, n2, c2, rfl, hi2, hb2⟩
        have HB2 := Lib.hid (HB.out.trans (hb2.mono HB.out.size))
        have HI2 := Lib.hid hi2
        obtain ⟨_, _, _, _, hf2, -⟩ := hi2.parts
        cases hf2
        clear hb2 hi2
        cases hany : zss.any isLong
        case true =>
          rw [addR_long hany] at HI2 ⊢
          simp only [errOf, if_true]
          clear hany
          go_wp2_with fail
          refine awake.mono ?_
          rintro e w3 ⟨rfl, hb3⟩
          have HB3 := Lib.hid (HB2.out.trans (hb3.mono HB2.out.size))
          clear hb3
          go_wp2_with fail
          refine awake.mono ?_
          rintro e w4 ⟨rfl, hb4⟩
          have HB4 := Lib.hid (HB3.out.trans (hb4.mono HB3.out.size))
          clear hb4
          go_wp2
          go_ret
          exact ⟨rfl, HB4.out⟩
        case false =>
          have HS := Lib.hid (sumL_eq hany)
          rw [addR_short hany] at HI2 ⊢
          simp only [errOf]
          clear hany
          go_wp2_with fail
          refine awake.mono ?_
          rintro e w3 ⟨rfl, hb3⟩
          have HI3 := Lib.hid (HI2.out.below hb3)
          have HB3 := Lib.hid (HB2.out.trans (hb3.mono HB2.out.size))
          clear hb3
          go_wp2_with fail
          refine (refAdd (HL.out.below HB3.out)).mono ?_
          rintro e w4 ⟨u4, rfl, hi4, hb4⟩
          rw [HS.out] at hi4
          have HI4 := Lib.hid hi4
          have HI5 := Lib.hid (HI3.out.below hb4)
          have HB4 := Lib.hid (HB3.out.trans (hb4.mono HB3.out.size))
          clear hb4 hi4
          go_wp2_with fail
          refine (sameInts HI5.out HI4.out).mono ?_
          rintro e w5 ⟨rfl, nd, rfl⟩
          rw [decide_eq_true rfl]
          go_wp2
          go_ret
          exact ⟨rfl, HB4.out.trans ⟨rfl, rfl, rfl, Nat.le_refl _, fun _ _ => rfl⟩⟩

end Go.Proofs.Ytpocmldhgnphlaa
