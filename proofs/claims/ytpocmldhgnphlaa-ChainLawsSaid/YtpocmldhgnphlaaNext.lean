/- The chain one round later. -/
import Derived.Test.YtpocmldhgnphlaaLawEnds
namespace Go.Proofs.Ytpocmldhgnphlaa
set_option linter.unusedSimpArgs false
set_option linter.unusedVariables false
open Go.RowKit

def nextL (xs : List Int) : List Int := trim ((List.range (trim xs).length).map fun k => wrap64 (fn xs k + fn xs (k + 1)))
def nextR (xs : List Int) : List Int := longE (isLong xs) (nextL xs)

theorem nextL_64 (xs : List Int) : Chain64 (nextL xs) := by
  refine trim_64 fun x hx => ?_
  obtain ⟨j, -, rfl⟩ := List.mem_map.1 hx
  exact wrap_In _
theorem nextL_len (xs : List Int) : (nextL xs).length ≤ (trim xs).length := by
  unfold nextL
  exact Nat.le_trans (trim_le _) (by simp)
theorem nextL_val (xs : List Int) (n : Nat) : wrap64 (valL (nextL xs) n) = wrap64 (valL xs (n + 1)) := by
  unfold nextL
  rw [valL_trim, valL_range, ← valL_trim xs]
  unfold valL
  rw [← val_more (fn (trim xs)) (n + 1) (show (trim xs).length ≤ (trim xs).length + 1 by omega) (fun k hk => getD_over hk), val_succ,
    val_more (fn (trim xs)) n (show (trim xs).length ≤ (trim xs).length + 1 by omega) (fun k hk => getD_over hk), ← val_add]
  congr 1
  exact val_congr n fun k _ => by rw [fn_trim, fn_trim]

set_option maxHeartbeats 3200000 in
theorem chainNext {w : World} {v : Value} {xs : List Int} (hv : Ints w v xs) :
    Calls Try.prog 26 #[v] w fun e w' => ∃ a n c, e = .returned (.slice a n c) ∧ Ints w' (.slice a n c) (nextR xs) ∧ Below w.heap.size w w' := by
  obtain ⟨av, cv, rfl⟩ := hv.form
  have HV := Lib.hid hv
  have H64 := Lib.hid hv.2
  have hl := Nat.le_trans (trim_le xs) hv.le
  clear hv
  generalize xs.length = lv at *
  go_enter Try.func26, Try.ntmps26
  go_wp2_with fail
  refine (chainLong (lists_one HV.out)).mono ?_
  rintro e w1 ⟨rfl, hb1⟩
  have HB1 := Lib.hid (below_alloc hb1)
  clear hb1
  simp only [List.any_cons, List.any_nil, Bool.or_false]
  cases hlong : isLong xs
  case true =>
    have HE := Lib.hid (show nextR xs = [] by unfold nextR; rw [hlong]; rfl)
    go_wp2
    go_ret
    exact ⟨none, 0, 0, rfl, by rw [HE.out]; exact Ints.nil, HB1.out⟩
  case false =>
    have HE := Lib.hid (show nextR xs = nextL xs by unfold nextR; rw [hlong]; rfl)
    clear hlong
    go_wp2_with fail
    refine (chainTrim (HV.out.below HB1.out)).mono ?_
    rintro e w2 ⟨u2, rfl, ho2, hb2⟩
    have HB2 := Lib.hid (HB1.out.trans (hb2.mono HB1.out.size))
    rw [ints_nums] at ho2
    rcases own_form ho2 with ⟨rfl, h0, -⟩ | ⟨g, cap, rfl, hg1, hnc, hcm, hblk⟩
    · have HX := Lib.hid (show nextL xs = [] by unfold nextL; rw [h0]; rfl)
      clear ho2 hb2
      go_wp2
      refine wp_loop_rounds 1 ?_
      rw [rounds_succ]
      go_wp2_with fail
      refine (chainTrim' (Ints.nil)).mono ?_
      rintro e w3 ⟨a3, c3, rfl, hi3, -, hb3⟩
      have HI3 := Lib.hid hi3
      have HB3 := Lib.hid (HB2.out.trans (hb3.mono HB2.out.size))
      clear hi3 hb3
      go_wp2
      go_ret
      exact ⟨_, _, _, rfl, by rw [HE.out, HX.out]; exact HI3.out, HB3.out⟩
    · have hgw : w.heap.size ≤ g := Nat.le_trans HB1.out.size hg1
      have HN := Lib.hid (show nextL xs = trim ((List.range (trim xs).length).map fun k => wrap64 (fn xs k + fn xs (k + 1))) from rfl)
      have HLAST := Lib.hid (show fn xs (trim xs).length = 0 by rw [← fn_trim]; exact getD_over (Nat.le_refl _))
      have HBL := Lib.hid (hblk.congr (g := fn xs) (fun t _ => trim_getD xs t))
      have HIN := Lib.hid (fun t => fn_In H64.out t)
      have hcap : cap ≤ 9223372036854775807 := by unfold maxLen at hcm; omega
      have HCM := Lib.hid hcm
      clear ho2 hb2 hblk hcm
      generalize (trim xs).length = m at *
      go_wp2
      go_loopw [4] (fun v wr => ∃ i : Nat, (i + 1 ≤ m ∨ i = 0) ∧ v = .int .i64 i ∧ Blk wr g 3 (nums m (fun t => if t < i then wrap64 (fn xs t + fn xs (t + 1)) else fn xs t)) ∧ Below w.heap.size w wr) (fun v _ => m - (intOf v).toNat)
      case atStart => exact ⟨0, by omega, rfl, HBL.out.congr (fun t _ => by rw [if_neg (by omega)]), HB2.out⟩
      case round =>
        obtain ⟨i, hi, rfl, hbl, hb⟩ := hrel
        have HBL2 := Lib.hid hbl
        have HB3 := Lib.hid hb
        by_cases hlt : i + 1 < m
        · have e1 := hbl.num (j := i + 1) (by omega)
          have e2 := hbl.num (j := i) (by omega)
          have e3 := hbl.free i
          rw [if_neg (by omega)] at e1 e2
          have HSET := Lib.hid (show wrap64 (fn xs i + fn xs (i + 1)) = wrap64 (fn xs i + fn xs (i + 1)) from rfl)
          generalize hd1 : fn xs (i + 1) = d1 at e1 HSET
          generalize hd2 : fn xs i = d2 at e2 HSET
          have HD1 := Lib.hid hd1
          have HD2 := Lib.hid hd2
          clear hbl hb hd1 hd2
          go_wp2
          go_region
          go_wp2
          go_roundw
          case rel =>
            refine ⟨i + 1, by omega, by go_num, ((HBL2.out.put i _).drew).congr (fun t ht => ?_), (HB3.out.setCell hgw _).drew⟩
            by_cases e : t = i
            · subst e; rw [upd_same, if_pos (by omega), HD1.out, HD2.out]
            · rw [upd_other _ _ e]
              by_cases e2 : t < i
              · rw [if_pos e2, if_pos (by omega)]
              · rw [if_neg e2, if_neg (by omega)]
          case measure => simp [intOf]; omega
        · have HI := Lib.hid ((HBL2.out.congr (g := fun t => wrap64 (fn xs t + fn xs (t + 1))) (fun t ht => by
            by_cases e : t < i
            · rw [if_pos e]
            · rw [if_neg e, show t + 1 = m by omega, HLAST.out, Int.add_zero, wrap_in (HIN.out t)])).ints (cap := cap) hnc HCM.out hl (fun j _ => wrap_In _))
          clear hbl hb
          go_wp2_with fail
          refine (chainTrim' HI.out).mono ?_
          rintro e w4 ⟨a4, c4, rfl, hi4, -, hb4⟩
          rw [← HN.out] at hi4 ⊢
          have HI4 := Lib.hid hi4
          have HB4 := Lib.hid (HB3.out.trans (hb4.mono HB3.out.size))
          clear hi4 hb4
          go_wp2
          go_ret
          exact ⟨_, _, _, rfl, by rw [HE.out]; exact HI4.out, HB4.out⟩
end Go.Proofs.Ytpocmldhgnphlaa
