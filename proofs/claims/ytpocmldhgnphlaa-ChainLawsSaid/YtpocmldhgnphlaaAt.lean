/- A chain's value behind n rounds, as the program reckons it. -/
import Derived.Test.YtpocmldhgnphlaaChoose
namespace Go.Proofs.Ytpocmldhgnphlaa
set_option linter.unusedSimpArgs false
set_option linter.unusedVariables false
open Go.RowKit

/-- A list's numbers, zeros behind. -/
def fn (xs : List Int) (k : Nat) : Int := xs.getD k 0
def valL (xs : List Int) (n : Nat) : Int := val xs.length (fn xs) n

theorem fn_trim (xs : List Int) (k : Nat) : fn (trim xs) k = fn xs k := trim_getD xs k
theorem val_trim (xs : List Int) (n : Nat) : val (trim xs).length (fn (trim xs)) n = valL xs n := by
  unfold valL
  rw [val_congr n (fun k _ => fn_trim xs k)]
  exact (val_more (fn xs) n (trim_le xs) (fun k hk => by rw [← fn_trim]; exact getD_over hk)).symm

def atV (xs : List Int) (n : Int) : Int := if isLong xs then 0 else wrap64 (valL xs (max n 0).toNat)

theorem acc_step (f : Nat → Int) (n k : Nat) : wrap64 (wrap64 (val k f n) + wrap64 (f k * wrap64 (bin n k : Nat))) = wrap64 (val (k + 1) f n) := by
  rw [wrap_add_l, wrap_add_r, ← wrap_add_r, wrap_mul_r, wrap_add_r]; rfl

set_option maxHeartbeats 1000000 in
theorem chainAt {w : World} {v : Value} {xs : List Int} (n : Int) (hn : In64 n) (hv : Ints w v xs) :
    Calls Try.prog 22 #[v, .int .i64 n] w fun e w' => e = .returned (.int .i64 (atV xs n)) ∧ Below w.heap.size w w' := by
  obtain ⟨av, cv, rfl⟩ := hv.form
  have HV := Lib.hid hv
  clear hv
  obtain ⟨hn1, hn2⟩ := hn
  generalize xs.length = lv at *
  have hb0 : Below w.heap.size w (w.alloc (.cells #[.slice av lv cv] 24)) := (Below.refl _ _).alloc (Nat.le_refl _) _
  have HB0 := Lib.hid hb0
  clear hb0
  go_enter Try.func22, Try.ntmps22
  go_wp2_with fail
  refine (chainLong (lists_one HV.out)).mono ?_
  rintro e w1 ⟨rfl, hb1⟩
  simp only [List.any_cons, List.any_nil, Bool.or_false]
  have HB1 := Lib.hid (HB0.out.trans (hb1.mono HB0.out.size))
  clear hb1
  cases hlong2 : isLong xs
  case true =>
    go_wp2
    go_ret
    exact ⟨ret_int (by unfold atV; rw [if_pos hlong2]), HB1.out⟩
  case false =>
    go_wp2_with fail
    refine (chainTrim' (HV.out.below HB1.out)).mono ?_
    rintro e w2 ⟨a, c, rfl, hi, -, hb2⟩
    have HB2 := Lib.hid (HB1.out.trans (hb2.mono HB1.out.size))
    clear hb2
    have hle : (trim xs).length ≤ 16 := by simpa [isLong] using hlong2
    have HR := Lib.hid (show atV xs n = wrap64 (val (trim xs).length (fn (trim xs)) (max n 0).toNat) by unfold atV; rw [hlong2, val_trim]; rfl)
    clear hlong2
    obtain ⟨_, _, b, o, hv', hc, hm, ha, hx⟩ := hi.parts
    cases hv'
    obtain ⟨N, hN⟩ : ∃ N : Nat, max n 0 = (N : Int) := ⟨(max n 0).toNat, by omega⟩
    have hN2 : N ≤ 9223372036854775807 := by omega
    have hN3 : (max n 0).toNat = N := by omega
    rw [hN3] at HR
    have hin := fun j => hi.getD j
    clear hi hN3
    have HF := Lib.hid (fun k => show (trim xs).getD k 0 = fn (trim xs) k from rfl)
    have HIN := Lib.hid hin
    have HN := Lib.hid hN
    clear hin hN
    generalize trim xs = ts at *
    generalize H1 : ts.length = m at *
    have G1 := Lib.hid H1
    clear H1
    go_wp2
    go_loopw [5, 14] (fun v i wr => ∃ k : Nat, k ≤ m ∧ i = .int .i64 k ∧ v = .int .i64 (wrap64 (val k (fn ts) N)) ∧ Below w.heap.size w wr ∧ Below w2.heap.size w2 wr) (fun _ i _ => m - (intOf i).toNat)
    case atStart => exact ⟨0, by omega, rfl, by simp [val, sumN, wrap_zero], HB2.out, Below.refl _ _⟩
    case round =>
      obtain ⟨k, hk, rfl, rfl, hb3, hb4⟩ := hrel
      have HB3 := Lib.hid hb3
      clear hb3
      by_cases hlt : k < m
      · obtain ⟨rfl, hbw⟩ := ha (by omega)
        have hcell : wr.cell? ⟨b, o + k, none⟩ = some (.int .i64 (ts.getD k 0)) := (hb4.cell hbw).trans (hx k hlt)
        rw [HF.out] at hcell
        have HB4 := Lib.hid hb4
        clear hx ha hb4
        go_wp2_with fail
        all_goals
          refine (chooseI N k (by have := HN.out; omega) rfl hN2 (by omega)).mono ?_
          rintro e w' ⟨rfl, rfl⟩
          go_wp2
          go_roundw
          case rel => exact ⟨k + 1, by omega, by go_num, by rw [← acc_step], HB3.out, HB4.out⟩
          case measure => simp [intOf]; omega
      · obtain rfl : k = m := by omega
        go_wp2
        go_ret
        exact ⟨ret_int HR.out.symm, HB3.out⟩
end Go.Proofs.Ytpocmldhgnphlaa
