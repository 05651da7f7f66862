/- The program's product of chains. -/
import Derived.Test.YtpocmldhgnphlaaSums2
import Derived.Deep.RegionLaw
namespace Go.Proofs.Ytpocmldhgnphlaa
set_option linter.unusedSimpArgs false
set_option linter.unusedVariables false
open Go.RowKit

/-- What is reckoned when i numbers of the one are done, j of the other with the next, and of that pair all below k. -/
def mulP (B : Nat) (f g : Nat → Int) (i j k t : Nat) : Int :=
  sumN i (fun i' => sumN B (fun j' => f i' * g j' * (mulc i' j' t : Nat))) + sumN j (fun j' => f i * g j' * (mulc i j' t : Nat)) + if t < k then f i * g j * (mulc i j t : Nat) else 0

theorem mulP_start (B : Nat) (f g : Nat → Int) (i j k t : Nat) (h : k ≤ max i j) : mulP B f g i j k t = mulP B f g i j 0 t := by
  unfold mulP
  by_cases ht : t < k
  · rw [if_pos ht, if_neg (by omega), mulc_under (by omega)]; simp
  · rw [if_neg ht, if_neg (by omega)]
theorem mulP_end (B : Nat) (f g : Nat → Int) (i j k t : Nat) (h : i + j < k) : mulP B f g i j k t = mulP B f g i (j + 1) 0 t := by
  unfold mulP
  simp only [sumN]
  by_cases ht : t < k
  · rw [if_pos ht, if_neg (by omega)]; omega
  · rw [if_neg ht, if_neg (by omega), mulc_over (by omega)]; simp
theorem mulP_row (B : Nat) (f g : Nat → Int) (i t : Nat) : mulP B f g i B 0 t = mulP B f g (i + 1) 0 0 t := by
  unfold mulP
  simp [sumN]
theorem mulP_all (A B : Nat) (f g : Nat → Int) (t : Nat) : mulP B f g A 0 0 t = mulF A B f g t := by
  unfold mulP mulF
  simp [sumN]
theorem mulP_zero (B : Nat) (f g : Nat → Int) (t : Nat) : mulP B f g 0 0 0 t = 0 := by
  unfold mulP
  simp [sumN]
theorem mulP_set (B : Nat) (f g : Nat → Int) (i j k : Nat) (h : j ≤ k) : wrap64 (wrap64 (mulP B f g i j k k) + wrap64 (wrap64 (wrap64 (f i * g j) * wrap64 (bin k i : Nat)) * wrap64 (bin i (k - j) : Nat))) = wrap64 (mulP B f g i j (k + 1) k) := by
  rw [wrap_add_l, wrap_mul_r, ← wrap_mul_l, wrap_wrap, wrap_mul_r, wrap_mul_l (wrap64 (f i * g j) * (bin k i : Nat)), Int.mul_assoc, wrap_mul_l, wrap_add_r]
  congr 1
  unfold mulP
  rw [if_neg (by omega), if_pos (by omega)]
  unfold mulc
  rw [if_neg (by omega)]
  push_cast
  omega
theorem mulP_other (B : Nat) (f g : Nat → Int) (i j k t : Nat) (h : t ≠ k) : mulP B f g i j (k + 1) t = mulP B f g i j k t := by
  unfold mulP; congr 1
  by_cases h1 : t < k
  · rw [if_pos h1, if_pos (by omega)]
  · rw [if_neg h1, if_neg (by omega)]

def mulOut (xs ys : List Int) : List Int := (List.range ((trim xs).length + (trim ys).length)).map fun t => wrap64 (mulF (trim xs).length (trim ys).length (fn xs) (fn ys) t)
def mulE (xs ys : List Int) : Bool := [xs, ys].any isLong || isLong (mulOut xs ys)
theorem mulE_of {xs ys : List Int} (h : [xs, ys].any isLong = false) : mulE xs ys = isLong (mulOut xs ys) := by unfold mulE; rw [h]; rfl

set_option maxHeartbeats 3200000 in
theorem chainMul {w : World} {u v : Value} {xs ys : List Int} (hu : Ints w u xs) (hv : Ints w v ys) :
    Calls Try.prog 24 #[u, v] w fun e w' => ∃ a n c, e = .returned (.tuple #[.slice a n c, .int .i64 (errOf (mulE xs ys))]) ∧
      Ints w' (.slice a n c) (longE (mulE xs ys) (trim (mulOut xs ys))) ∧ Below w.heap.size w w' := by
  obtain ⟨au, cu, rfl⟩ := hu.form
  obtain ⟨av, cv, rfl⟩ := hv.form
  have HU := Lib.hid hu
  have HV := Lib.hid hv
  clear hu hv
  generalize xs.length = lu at *
  generalize ys.length = lv at *
  have HB0 := Lib.hid ((Below.refl w.heap.size w).alloc (Nat.le_refl _) (.cells #[.slice au lu cu, .slice av lv cv] 24))
  go_enter Try.func24, Try.ntmps24
  go_wp2_with fail
  refine (chainLong (lists_two HU.out HV.out)).mono ?_
  rintro e w1 ⟨rfl, hb1⟩
  have HB1 := Lib.hid (HB0.out.trans (hb1.mono HB0.out.size))
  clear hb1
  cases hany : [xs, ys].any isLong
  case true =>
    have HE := Lib.hid (show mulE xs ys = true by unfold mulE; rw [hany]; rfl)
    clear hany
    go_wp2
    go_ret2
    exact ⟨none, 0, 0, ret_two rfl (by rw [HE.out]; rfl), by rw [HE.out]; exact Ints.nil, HB1.out⟩
  case false =>
    have HE := Lib.hid (mulE_of hany)
    have hl1 : (trim xs).length ≤ 16 := by simp [isLong] at hany; omega
    have hl2 : (trim ys).length ≤ 16 := by simp [isLong] at hany; omega
    clear hany
    go_wp2_with fail
    refine (chainTrim' (HU.out.below HB1.out)).mono ?_
    rintro e w2 ⟨a1, c1, rfl, hi1, -, hb2⟩
    have HB2 := Lib.hid (HB1.out.trans (hb2.mono HB1.out.size))
    have HI1 := Lib.hid hi1
    clear hb2 hi1
    go_wp2_with fail
    refine (chainTrim' (HV.out.below HB2.out)).mono ?_
    rintro e w3 ⟨a2, c2, rfl, hi2, -, hb3⟩
    have HB3 := Lib.hid (HB2.out.trans (hb3.mono HB2.out.size))
    have HJ1 := Lib.hid (HI1.out.below hb3)
    have HI2 := Lib.hid hi2
    clear hb3 hi2
    have HF := Lib.hid (show ∀ j, (trim xs).getD j 0 = fn xs j from fun j => trim_getD xs j)
    have HG := Lib.hid (show ∀ j, (trim ys).getD j 0 = fn ys j from fun j => trim_getD ys j)
    have HO := Lib.hid (show mulOut xs ys = (List.range ((trim xs).length + (trim ys).length)).map (fun t => wrap64 (mulP (trim ys).length (fn xs) (fn ys) (trim xs).length 0 0 t)) by
      unfold mulOut; congr 1; funext t; rw [mulP_all])
    obtain ⟨_, _, b1, o1, hf1, -, -, ha1, hx1⟩ := HJ1.out.parts
    cases hf1
    obtain ⟨_, _, b2, o2, hf2, -, -, ha2, hx2⟩ := HI2.out.parts
    cases hf2
    have HA1 := Lib.hid ha1
    have HA2 := Lib.hid ha2
    have HX1 := Lib.hid hx1
    have HX2 := Lib.hid hx2
    clear ha1 ha2 hx1 hx2
    generalize trim xs = ts at *
    generalize trim ys = us at *
    generalize H1 : ts.length = A at *
    generalize H2 : us.length = B at *
    clear H1 H2
    go_wp2_with (at_make; refine wpList_make_ints rfl _ _ 24 3 rfl elInt (A + B) rfl rfl (by omega) (by omega) (by omega) ?_)
    intro w4 hblk hb4
    have HBL := Lib.hid hblk
    have HB4 := Lib.hid hb4
    clear hblk hb4
    go_wp2
    go_loopw [28] (fun v wr => ∃ i : Nat, i ≤ A ∧ v = .int .i64 i ∧ Blk wr w3.heap.size 3 (nums (A + B) (fun t => wrap64 (mulP B (fn xs) (fn ys) i 0 0 t))) ∧ Below w3.heap.size w3 wr) (fun v _ => A - (intOf v).toNat)
    case atStart => exact ⟨0, by omega, rfl, HBL.out.congr (fun t _ => by rw [mulP_zero, wrap_zero]), HB4.out⟩
    case round =>
      obtain ⟨i, hi, rfl, hbl, hb⟩ := hrel
      have HBI := Lib.hid hbl
      have HB := Lib.hid hb
      clear hbl hb
      by_cases hlt : i < A
      · obtain ⟨rfl, hbw1⟩ := HA1.out (by omega)
        have k1 : wr.cell? ⟨b1, o1 + i, none⟩ = some (.int .i64 (ts.getD i 0)) := (HB.out.cell hbw1).trans (HX1.out i hlt)
        rw [HF.out] at k1
        obtain ⟨wp, rfl⟩ : ∃ wp : World, wp = wr := ⟨_, rfl⟩
        go_wp2
        go_loopw [35] (fun v wr => ∃ j : Nat, j ≤ B ∧ v = .int .i64 j ∧ Blk wr w3.heap.size 3 (nums (A + B) (fun t => wrap64 (mulP B (fn xs) (fn ys) i j 0 t))) ∧ Below w3.heap.size w3 wr) (fun v _ => B - (intOf v).toNat)
        case atStart => exact ⟨0, by omega, rfl, HBI.out, HB.out⟩
        case round =>
          obtain ⟨j, hj, rfl, hbl, hb⟩ := hrel
          have HBJ := Lib.hid hbl
          have HBB := Lib.hid hb
          clear hbl hb
          by_cases hlt2 : j < B
          · obtain ⟨rfl, hbw2⟩ := HA2.out (by omega)
            have k2 : wr.cell? ⟨b2, o2 + j, none⟩ = some (.int .i64 (us.getD j 0)) := (HBB.out.cell hbw2).trans (HX2.out j hlt2)
            rw [HG.out] at k2
            obtain ⟨wq, rfl⟩ : ∃ wq : World, wq = wr := ⟨_, rfl⟩
            have HST := Lib.hid (fun t => mulP_start B (fn xs) (fn ys) i j (max i j) t (Nat.le_refl _))
            have HEN := Lib.hid (fun t => mulP_end B (fn xs) (fn ys) i j (i + j + 1) t (by omega))
            have HSE := Lib.hid (fun k (h : j ≤ k) => mulP_set B (fn xs) (fn ys) i j k h)
            have HOT := Lib.hid (fun k t (h : t ≠ k) => mulP_other B (fn xs) (fn ys) i j k t h)
            obtain ⟨m, hm⟩ : ∃ m, m = max i j := ⟨_, rfl⟩
            have hmi : i ≤ m := by omega
            have hmj : j ≤ m := by omega
            have hmm : m ≤ i + j := by omega
            rw [← hm] at HST
            generalize fn xs i = x at k1 HSE
            generalize fn ys j = y at k2 HSE
            rcases (show m = i ∧ j ≤ i ∨ m = j ∧ i < j by omega) with ⟨hmi2, hij⟩ | ⟨hmi2, hij⟩
            all_goals
              have HM2 := Lib.hid hmi2
              clear hm hmi2
              go_wp2
              go_loopw [11] (fun v wr => ∃ k : Nat, m ≤ k ∧ k ≤ i + j + 1 ∧ v = .int .i64 k ∧ Blk wr w3.heap.size 3 (nums (A + B) (fun t => wrap64 (mulP B (fn xs) (fn ys) i j k t))) ∧ Below w3.heap.size w3 wr) (fun v _ => i + j + 1 - (intOf v).toNat)
              case atStart => exact ⟨m, Nat.le_refl _, by omega, by rw [HM2.out], HBJ.out.congr (fun t _ => by rw [HST.out]), HBB.out⟩
              case round =>
                obtain ⟨k, hk1, hk2, rfl, hbl, hb⟩ := hrel
                have HBK := Lib.hid hbl
                have HBB2 := Lib.hid hb
                by_cases hlt3 : k ≤ i + j
                · have c1 := hbl.num (j := k) (by omega)
                  have c2 := hbl.free k
                  have HSEK := Lib.hid (HSE.out k (by omega))
                  clear hbl hb k1 k2
                  have n1 : (0 : Int) ≤ (k : Int) := by omega
                  have n2 : (k : Int) < (A : Int) + (B : Int) := by omega
                  have n3 : IntKind.i64.wrap ((k : Int) - (j : Int)) = (k : Int) - (j : Int) := IntWalk.i64_in _ (by omega)
                  go_wp2
                  go_still_tail 19, (by kernel_rfl)
                  still_call (chooseI k i rfl rfl (by omega) (by omega))
                  repeat still_step
                  still_call (chooseI i (k - j) rfl (by omega) (by omega) (by omega))
                  repeat still_step
                  refine wpStill_nil ?_
                  change wpList _ _ _ _ _ wr.drew
                  go_wp2
                  go_roundw
                  case rel =>
                    refine ⟨k + 1, by omega, by omega, by go_num, ((HBK.out.put k _).drew).congr (fun t ht => ?_), (HBB2.out.setCell (Nat.le_refl _) _).drew⟩
                    by_cases e : t = k
                    · subst e; rw [upd_same, HSEK.out]
                    · rw [upd_other _ _ e, HOT.out k t e]
                  case measure => simp [intOf]; omega
                · obtain rfl : k = i + j + 1 := by omega
                  clear hbl hb k1 k2
                  go_wp2
                  go_roundw
                  case rel => exact ⟨j + 1, by omega, by go_num, HBK.out.congr (fun t _ => by rw [HEN.out]), HBB2.out⟩
                  case measure => simp [intOf]; omega
          · obtain rfl : j = B := by omega
            go_wp2
            go_roundw
            case rel => exact ⟨i + 1, by omega, by go_num, HBJ.out.congr (fun t _ => by rw [mulP_row]), HBB.out⟩
            case measure => simp [intOf]; omega
      · obtain rfl : i = A := by omega
        have HI := Lib.hid (HBI.out.ints (cap := i + B) (Nat.le_refl _) (by unfold maxLen; omega) (by omega) (fun t _ => wrap_In _))
        rw [← HO.out] at HI
        generalize hmo : mulOut xs ys = ms at *
        have HMO := Lib.hid hmo
        clear hmo
        go_wp2_with fail
        refine (chainLong (lists_one HI.out)).mono ?_
        rintro e w5 ⟨rfl, hb5⟩
        have HB5 := Lib.hid (HB3.out.trans ((HB.out.mono HB3.out.size).trans (((Below.refl _ _).alloc (by have := HB.out.size; have := HB3.out.size; omega) _).trans (hb5.mono (by have := HB.out.size; have := HB3.out.size; simp; omega)))))
        have HI5 := Lib.hid (HI.out.below (((Below.refl _ _).alloc (Nat.le_refl _) _).trans (hb5.mono (by simp))))
        clear hb5
        rw [show [ms].any isLong = isLong ms by simp]
        cases hlm : isLong ms
        case true =>
          have HLM := Lib.hid hlm
          clear hlm
          go_wp2
          go_ret2
          exact ⟨none, 0, 0, ret_two rfl (by rw [HE.out, HLM.out]; rfl), by rw [HE.out, HLM.out]; exact Ints.nil, HB5.out⟩
        case false =>
          have HLM := Lib.hid hlm
          clear hlm
          go_wp2_with fail
          refine (chainTrim' HI5.out).mono ?_
          rintro e w6 ⟨a6, c6, rfl, hi6, -, hb6⟩
          have HI6 := Lib.hid hi6
          have HB6 := Lib.hid (HB5.out.trans (hb6.mono HB5.out.size))
          clear hi6 hb6
          go_wp2
          go_ret2
          exact ⟨_, _, _, ret_two rfl (by rw [HE.out, HLM.out]; rfl), by rw [HE.out, HLM.out, HMO.out]; exact HI6.out, HB6.out⟩
end Go.Proofs.Ytpocmldhgnphlaa
