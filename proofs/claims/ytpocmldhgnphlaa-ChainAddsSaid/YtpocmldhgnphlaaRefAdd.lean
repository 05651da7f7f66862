/- The reference's sum of chains. -/
import Derived.Test.YtpocmldhgnphlaaAwake
namespace Go.Proofs.Ytpocmldhgnphlaa
set_option linter.unusedSimpArgs false
set_option linter.unusedVariables false
open Go.RowKit

/-- The greatest length of the first k lists. -/
def mostOf (xss : List (List Int)) : Nat → Nat
  | 0 => 0
  | k + 1 => max (mostOf xss k) (xss.getD k []).length
theorem mostOf_le {xss : List (List Int)} {B : Nat} (h : ∀ j, (xss.getD j []).length ≤ B) (k : Nat) : mostOf xss k ≤ B := by
  induction k with
  | zero => simp [mostOf]
  | succ k ih => have := h k; simp only [mostOf]; omega
theorem le_mostOf {xss : List (List Int)} {j k : Nat} (h : j < k) : (xss.getD j []).length ≤ mostOf xss k := by
  induction k with
  | zero => omega
  | succ k ih =>
    simp only [mostOf]
    by_cases e : j = k
    · subst e; omega
    · have := ih (by omega); omega
def sumL (xss : List (List Int)) : List Int := trim ((List.range (mostOf xss xss.length)).map fun t => wrap64 (colS xss t))

theorem getD_range (n : Nat) (f : Nat → Int) (k : Nat) : ((List.range n).map f).getD k 0 = if k < n then f k else 0 := by
  rw [List.getD_eq_getElem?_getD]
  by_cases h : k < n <;> simp [h]

theorem sumL_eq {xss : List (List Int)} (h : xss.any isLong = false) : sumL xss = addL xss := by
  unfold sumL addL
  apply trim_ext
  intro k
  rw [getD_range, getD_range]
  have h16 : 16 ≤ k → colS xss k = 0 := fun hk => sumN_zero fun j _ => by
    have := any_getD h j
    unfold isLong at this
    rw [← fn_trim]
    exact getD_over (by have := of_decide_eq_false this; omega)
  have hmost : mostOf xss xss.length ≤ k → colS xss k = 0 := fun hk => sumN_zero fun j hj => getD_over (by have := le_mostOf (xss := xss) hj; omega)
  by_cases h1 : k < 16 <;> by_cases h2 : k < mostOf xss xss.length
  · rw [if_pos h1, if_pos h2]
  · rw [if_pos h1, if_neg h2, hmost (by omega), wrap_zero]
  · rw [if_neg h1, if_pos h2, h16 (by omega), wrap_zero]
  · rw [if_neg h1, if_neg h2]

set_option maxHeartbeats 1600000 in
theorem refAdd {w : World} {v : Value} {xss : List (List Int)} (hv : Lists w v xss) :
    Calls Try.prog 15 #[v] w fun e w' => ∃ u, e = .returned u ∧ Ints w' u (sumL xss) ∧ Below w.heap.size w w' := by
  obtain ⟨vs, a, c, b, o, rfl, hc, hm, hn, ha, hx, hi⟩ := hv.parts
  have HI := Lib.hid hi
  have HX := Lib.hid hx
  have HV := Lib.hid hv
  have HLE : Hid (∀ j, (xss.getD j []).length ≤ 17592186044416) := Lib.hid fun j => by
    by_cases hj : j < xss.length
    · exact (hi j hj).le
    · rw [List.getD_eq_getElem?_getD, List.getElem?_eq_none (by omega)]; simp
  clear hi hx hv
  have HL := Lib.hid (show colS xss = fun t => colP xss xss.length 0 t by funext t; simp [colS, colP])
  generalize H1 : xss.length = m at *
  have G1 := Lib.hid H1
  clear H1
  go_enter Try.func15, Try.ntmps15
  go_wp2
  go_loopw [3, 4] (fun x i wr => ∃ k : Nat, k ≤ m ∧ i = .int .i64 k ∧ x = .int .i64 (mostOf xss k) ∧ w = wr) (fun _ i _ => m - (intOf i).toNat)
  case atStart => exact ⟨0, by omega, rfl, rfl, rfl⟩
  case round =>
    obtain ⟨k, hk, rfl, rfl, rfl⟩ := hrel
    by_cases hlt : k < m
    · obtain ⟨rfl, hbw⟩ := ha (by omega)
      have hcell := HX.out k hlt
      obtain ⟨a', c', hf⟩ := (HI.out k hlt).form
      rw [hf] at hcell
      have HM := Lib.hid (show mostOf xss (k + 1) = max (mostOf xss k) (xss.getD k []).length from rfl)
      have hl1 := HLE.out k
      have hl2 := mostOf_le HLE.out k
      clear hf
      generalize (xss.getD k []).length = l1 at *
      generalize hmm : mostOf xss k = l2 at *
      clear hmm
      by_cases hgt : l2 < l1
      · go_wp2
        go_roundw
        case rel => exact ⟨k + 1, by omega, by go_num, by rw [HM.out, Nat.max_eq_right (by omega)], by trivial⟩
        case measure => simp [intOf]; omega
      · go_wp2
        go_roundw
        case rel => exact ⟨k + 1, by omega, by go_num, by rw [HM.out, Nat.max_eq_left (by omega)], by trivial⟩
        case measure => simp [intOf]; omega
    · obtain rfl : k = m := by omega
      have hl2 := mostOf_le HLE.out k
      have HMO := Lib.hid (fun j (hj : j < k) => le_mostOf (xss := xss) hj)
      have HS := Lib.hid (show sumL xss = trim ((List.range (mostOf xss k)).map fun t => wrap64 (colP xss k 0 t)) by unfold sumL; rw [G1.out, HL.out])
      generalize mostOf xss k = mo at *
      go_wp2_with (at_make; refine wpList_make_ints rfl _ _ 24 3 rfl elInt mo rfl rfl rfl rfl hl2 ?_)
      intro w1 hblk hb1
      have HBL := Lib.hid hblk
      have HB1 := Lib.hid hb1
      clear hblk hb1
      go_wp2
      go_loopw [6] (fun i wq => ∃ q : Nat, q ≤ k ∧ i = .int .i64 q ∧ Blk wq w.heap.size 3 (nums mo (fun t => wrap64 (colP xss q 0 t))) ∧ Below w.heap.size w wq) (fun i _ => k - (intOf i).toNat)
      case atStart =>
        refine ⟨0, by omega, rfl, ?_, HB1.out⟩
        rw [show (fun t => wrap64 (colP xss 0 0 t)) = fun _ => 0 by funext t; simp [colP, sumN, wrap_zero]]
        exact HBL.out
      case round =>
        obtain ⟨q, hq, rfl, hblk2, hb2⟩ := hrel
        have HBL2 := Lib.hid hblk2
        have HB2 := Lib.hid hb2
        clear hblk2 hb2
        by_cases hlt2 : q < k
        · obtain ⟨rfl, hbw⟩ := ha (by omega)
          obtain ⟨a2, c2, b2, o2, hf, hc2, hm2, ha2, hx2⟩ := (HI.out q hlt2).parts
          have hcellq := HX.out q hlt2
          rw [hf] at hcellq
          have hlq := HMO.out q hlt2
          have HF := Lib.hid (fun j => show (xss.getD q []).getD j 0 = fn (xss.getD q []) j from rfl)
          have HO := Lib.hid (fun j (hj : (xss.getD q []).length ≤ j) => show fn (xss.getD q []) j = 0 from getD_over hj)
          clear hf
          generalize HY0 : xss.getD q [] = ys at HF HO hx2 ha2 hc2 hlq hcellq
          have HY := Lib.hid HY0
          clear HY0
          generalize ys.length = ly at *
          obtain ⟨wq, rfl⟩ : ∃ wq : World, wq = wr := ⟨_, rfl⟩
          go_wp2
          go_loopw [7] (fun i wz => ∃ z : Nat, z ≤ ly ∧ i = .int .i64 z ∧ Blk wz w.heap.size 3 (nums mo (fun t => wrap64 (colP xss q z t))) ∧ Below w.heap.size w wz) (fun i _ => ly - (intOf i).toNat)
          case atStart => exact ⟨0, by omega, rfl, HBL2.out, HB2.out⟩
          case round =>
            obtain ⟨z, hz, rfl, hblk3, hb3⟩ := hrel
            have hrow : wr.cell? ⟨b, o + q, none⟩ = some (.slice a2 ly c2) := (hb3.cell hbw).trans hcellq
            have HB3 := Lib.hid hb3
            have HBL3 := Lib.hid hblk3
            by_cases hlt3 : z < ly
            · obtain ⟨rfl, hbw2⟩ := ha2 (by omega)
              have hc3 : wr.cell? ⟨b2, o2 + z, none⟩ = some (.int .i64 (ys.getD z 0)) := (hb3.cell hbw2).trans (hx2 z hlt3)
              rw [HF.out] at hc3
              have hc4 := hblk3.num (j := z) (by omega)
              have hfr := hblk3.free z
              clear hx2 hblk3 hb3 ha ha2
              go_wp2
              go_region
              go_wp2
              go_roundw
              case rel =>
                refine ⟨z + 1, by omega, by go_num, ?_, (HB3.out.setCell (Nat.le_refl _) _).drew⟩
                have h := HBL3.out.setCell (j := z) (.int .i64 (wrap64 (wrap64 (colP xss q z z) + fn ys z)))
                rw [nums_set mo _ (fun t => wrap64 (colP xss q (z + 1) t)) z _ (by rw [← HY.out]; exact (colP_set xss q z).symm) (fun t ht => by rw [colP_other xss q z t ht])] at h
                exact h.below (Below.refl (w.heap.size + 1) _).drew (by omega)
              case measure => simp [intOf]; omega
            · obtain rfl : z = ly := by omega
              clear hblk3 hb3
              go_wp2
              go_roundw
              case rel => exact ⟨q + 1, by omega, by go_num, by
                have h := HBL3.out
                rw [show (fun t => wrap64 (colP xss q z t)) = fun t => wrap64 (colP xss (q + 1) 0 t) from funext fun t => by rw [colP_next xss q z t (fun t ht => by rw [HY.out]; exact HO.out t ht)]] at h
                exact h, HB3.out⟩
              case measure => simp [intOf]; omega
        · obtain rfl : q = k := by omega
          go_wp2_with fail
          refine (refTrim (HBL2.out.ints (cap := mo) (by omega) (by unfold maxLen; omega) hl2 (fun j _ => wrap_In _))).mono ?_
          rintro e w3 ⟨u, rfl, hi3, hb3⟩
          rw [← HS.out] at hi3
          have HB3 := Lib.hid (HB2.out.trans (hb3.mono (by have := HB2.out.size; omega)))
          have HI3 := Lib.hid hi3
          clear hb3 hi3
          go_wp2
          go_ret
          exact ⟨_, rfl, HI3.out, HB3.out⟩
end Go.Proofs.Ytpocmldhgnphlaa
