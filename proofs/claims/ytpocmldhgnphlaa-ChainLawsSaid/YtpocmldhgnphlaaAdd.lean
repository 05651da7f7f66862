/- The sum of chains, both programs'. -/
import Derived.Test.YtpocmldhgnphlaaAt
namespace Go.Proofs.Ytpocmldhgnphlaa
set_option linter.unusedSimpArgs false
set_option linter.unusedVariables false
open Go.RowKit

def colS (xss : List (List Int)) (t : Nat) : Int := sumN xss.length (fun j => fn (xss.getD j []) t)
def addL (xss : List (List Int)) : List Int := trim ((List.range 16).map fun t => wrap64 (colS xss t))
/-- The numbers when k lists are done and i numbers of the next. -/
def colP (xss : List (List Int)) (k i : Nat) (t : Nat) : Int := sumN k (fun j => fn (xss.getD j []) t) + if t < i then fn (xss.getD k []) t else 0

theorem colP_next (xss : List (List Int)) (k i t : Nat) (h : ∀ t, i ≤ t → fn (xss.getD k []) t = 0) : colP xss k i t = colP xss (k + 1) 0 t := by
  unfold colP
  simp only [sumN]
  by_cases ht : t < i
  · rw [if_pos ht, if_neg (by omega)]; omega
  · rw [if_neg ht, if_neg (by omega), h t (by omega)]; omega

theorem colP_set (xss : List (List Int)) (k q : Nat) : wrap64 (wrap64 (colP xss k q q) + fn (xss.getD k []) q) = wrap64 (colP xss k (q + 1) q) := by
  rw [wrap_add_l]; congr 1; unfold colP; rw [if_neg (by omega), if_pos (by omega)]; omega
theorem colP_other (xss : List (List Int)) (k q t : Nat) (h : t ≠ q) : colP xss k (q + 1) t = colP xss k q t := by
  unfold colP; congr 1
  by_cases h1 : t < q
  · rw [if_pos h1, if_pos (by omega)]
  · rw [if_neg h1, if_neg (by omega)]

def errOf (b : Bool) : Int := if b then 1 else 0

theorem any_getD {xss : List (List Int)} (h : xss.any isLong = false) (k : Nat) : isLong (xss.getD k []) = false := by
  rw [List.any_eq_false] at h
  by_cases hk : k < xss.length
  · rw [List.getD_eq_getElem?_getD, List.getElem?_eq_getElem hk]
    simpa using h _ (List.getElem_mem hk)
  · rw [List.getD_eq_getElem?_getD, List.getElem?_eq_none (by omega)]
    decide

/-- What comes of it: nothing, where one of them is too long. -/
def addR (xss : List (List Int)) : List Int := if xss.any isLong then [] else addL xss
theorem addR_long {xss : List (List Int)} (h : xss.any isLong = true) : addR xss = [] := by unfold addR; rw [if_pos h]
theorem addR_short {xss : List (List Int)} (h : xss.any isLong = false) : addR xss = addL xss := by unfold addR; rw [h]; rfl

set_option maxHeartbeats 1600000 in
theorem chainAdd {w : World} {v : Value} {xss : List (List Int)} (hv : Lists w v xss) :
    Calls Try.prog 12 #[v] w fun e w' => ∃ a n c, e = .returned (.tuple #[.slice a n c, .int .i64 (errOf (xss.any isLong))]) ∧
      Ints w' (.slice a n c) (addR xss) ∧ Below w.heap.size w w' := by
  obtain ⟨vs, a, c, b, o, rfl, hc, hm, hn, ha, hx, hi⟩ := hv.parts
  have HI := Lib.hid hi
  have HX := Lib.hid hx
  have HV := Lib.hid hv
  clear hi hx hv
  have HL := Lib.hid (show colS xss = fun t => colP xss xss.length 0 t by funext t; simp [colS, colP])
  generalize H1 : xss.length = m at *
  have G1 := Lib.hid H1
  clear H1
  go_enter Try.func12, Try.ntmps12
  go_wp2_with fail
  refine (chainLong HV.out).mono ?_
  rintro e w1 ⟨rfl, hb1⟩
  have HB1 := Lib.hid hb1
  clear hb1
  cases hany : xss.any isLong
  case true =>
    go_wp2
    go_ret2
    exact ⟨none, 0, 0, ret_two rfl (by rw [hany]; rfl), by rw [addR_long hany]; exact Ints.nil, HB1.out⟩
  case false =>
    have HA := Lib.hid hany
    clear hany
    go_wp2
    have hsz : w.heap.size ≤ w1.heap.size := HB1.out.size
    go_loopw [13] (fun i wr => ∃ k : Nat, k ≤ m ∧ i = .int .i64 k ∧ Blk wr w1.heap.size 45 (nums 16 (fun t => wrap64 (colP xss k 0 t))) ∧ Below w1.heap.size w1 wr) (fun i _ => m - (intOf i).toNat)
    case atStart =>
      refine ⟨0, by omega, rfl, Blk.new _ ?_, (Below.refl _ _).alloc (Nat.le_refl _) _⟩
      have e0 : (fun t => wrap64 (colP xss 0 0 t)) = fun _ => 0 := by funext t; simp [colP, sumN, wrap_zero]
      rw [e0]; rfl
    case round =>
      obtain ⟨k, hk, rfl, hblk, hb2⟩ := hrel
      have HK := Lib.hid hblk
      clear hblk
      by_cases hlt : k < m
      · obtain ⟨rfl, hbw⟩ := ha (by omega)
        have hcell : wr.cell? ⟨b, o + k, none⟩ = some (vs.getD k undef) := ((HB1.out.trans (hb2.mono hsz)).cell hbw).trans (HX.out k hlt)
        have HIK := Lib.hid ((HI.out k hlt).below (HB1.out.trans (hb2.mono hsz)))
        have HLN := Lib.hid (any_getD HA.out k)
        have HB2 := Lib.hid hb2
        clear hb2 ha
        generalize HX1 : vs.getD k undef = u at *
        clear HX1
        go_wp2_with fail
        refine (chainTrim' HIK.out).mono ?_
        rintro e w3 ⟨a3, c3, rfl, hi3, hfresh, hb3⟩
        have hwr : w1.heap.size < wr.heap.size := HK.out.lt
        have HK3 := Lib.hid (HK.out.below hb3 hwr)
        have HB3 := Lib.hid (HB2.out.trans (hb3.mono (by omega)))
        clear hb3
        have hle : (trim (xss.getD k [])).length ≤ 16 := by simpa [isLong] using HLN.out
        obtain ⟨_, _, b3, o3, hv3, hc3, hm3, ha3, hx3⟩ := hi3.parts
        cases hv3
        have HF := Lib.hid (fun j => show (trim (xss.getD k [])).getD j 0 = fn (xss.getD k []) j from trim_getD _ j)
        have HO := Lib.hid (fun j (hj : (trim (xss.getD k [])).length ≤ j) => show fn (xss.getD k []) j = 0 by rw [← HF.out j]; exact getD_over hj)
        have HG := Lib.hid (fun j => hi3.getD j)
        have hbw3 : ∀ j, j < (trim (xss.getD k [])).length → w1.heap.size < b3 := by
          intro j hj
          have h1 := (ha3 (by omega)).1
          have h2 := hfresh _ h1
          simp at h2; omega
        clear hfresh
        clear hi3
        generalize trim (xss.getD k []) = ts at *
        generalize H3 : ts.length = l at *
        clear H3
        obtain ⟨wo, hwo⟩ : ∃ wo : World, wo = w3 := ⟨_, rfl⟩
        go_wp2
        go_loopw [20] (fun i wq => ∃ q : Nat, q ≤ l ∧ i = .int .i64 q ∧ Blk wq w1.heap.size 45 (nums 16 (fun t => wrap64 (colP xss k q t))) ∧ Below w1.heap.size w1 wq ∧
            ∀ j, j < l → wq.cell? ⟨b3, o3 + j, none⟩ = some (.int .i64 (ts.getD j 0))) (fun i _ => l - (intOf i).toNat)
        case atStart => exact ⟨0, by omega, rfl, HK3.out, HB3.out, hx3⟩
        case round =>
          obtain ⟨q, hq, rfl, hblk4, hb4, hx4⟩ := hrel
          have HX4 := Lib.hid hx4
          clear hx4 hx3
          by_cases hql : q < l
          · obtain ⟨rfl, -⟩ := ha3 (by omega)
            have hc4 := HX4.out q hql
            rw [HF.out] at hc4
            have hc5 := hblk4.num (j := q) (by omega)
            have hfr := hblk4.free q
            have HK4 := Lib.hid hblk4
            have HB4 := Lib.hid hb4
            clear hblk4 hb4 ha3
            go_wp2
            go_roundw
            case rel =>
              refine ⟨q + 1, by omega, by go_num, ?_, HB4.out.setCell (Nat.le_refl _) _, fun j hj => ?_⟩
              · have h := HK4.out.setCell (j := q) (.int .i64 (wrap64 (wrap64 (colP xss k q q) + fn (xss.getD k []) q)))
                rw [nums_set 16 _ (fun t => wrap64 (colP xss k (q + 1) t)) q _ (colP_set xss k q).symm (fun t ht => by rw [colP_other xss k q t ht])] at h
                exact h
              · rw [World.cell?_setCell_other _ _ _ _ (by have := hbw3 j hj; simp; try omega)]
                exact HX4.out j hj
            case measure => simp [intOf]; omega
          · obtain rfl : q = l := by omega
            have HK4 := Lib.hid hblk4
            have HB4 := Lib.hid hb4
            clear hblk4 hb4
            go_wp2
            go_roundw
            case rel => exact ⟨k + 1, by omega, by go_num, by
              have h := HK4.out
              rw [show (fun t => wrap64 (colP xss k q t)) = fun t => wrap64 (colP xss (k + 1) 0 t) from funext fun t => by rw [colP_next xss k q t HO.out]] at h
              exact h, HB4.out⟩
            case measure => simp [intOf]; omega
      · obtain rfl : k = m := by omega
        go_wp2_with fail
        have HB2 := Lib.hid hb2
        clear hb2
        refine (chainTrim' (HK.out.ints (cap := 16) (by omega) (by unfold maxLen; omega) (by omega) (fun j _ => wrap_In _))).mono ?_
        rintro e w3 ⟨a3, c3, rfl, hi3, -, hb3⟩
        rw [show trim ((List.range 16).map fun t => wrap64 (colP xss k 0 t)) = addL xss by unfold addL; rw [HL.out]] at hi3 ⊢
        have HB3 := Lib.hid (HB1.out.trans ((HB2.out.mono hsz).trans (hb3.mono (by have := HB2.out.size; omega))))
        have HI3 := Lib.hid hi3
        clear hb3 hi3
        go_wp2
        go_ret2
        exact ⟨_, _, _, ret_two rfl (by rw [HA.out]; rfl), by rw [addR_short HA.out]; exact HI3.out, HB3.out⟩
end Go.Proofs.Ytpocmldhgnphlaa
