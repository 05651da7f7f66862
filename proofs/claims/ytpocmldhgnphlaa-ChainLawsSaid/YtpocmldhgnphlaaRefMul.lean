/- The reference's product of chains. -/
import Derived.Test.YtpocmldhgnphlaaMul
namespace Go.Proofs.Ytpocmldhgnphlaa
set_option linter.unusedSimpArgs false
set_option linter.unusedVariables false
open Go.RowKit

def pv (xs ys : List Int) (t : Nat) : Int := wrap64 (valL xs t * valL ys t)
def mulL (xs ys : List Int) : List Int := trim ((List.range (xs.length + ys.length)).map fun t => wrap64 (mulF xs.length ys.length (fn xs) (fn ys) t))

theorem mulF_over (A B : Nat) (f g : Nat → Int) (t : Nat) (h : A + B ≤ t) : mulF A B f g t = 0 :=
  sumN_zero fun i hi => sumN_zero fun j hj => by rw [mulc_over (by omega)]; simp

theorem fit_mul (xs ys : List Int) : fitL ((List.range (xs.length + ys.length + 1)).map (pv xs ys)) = mulL xs ys := by
  unfold fitL mulL
  apply trim_ext
  intro k
  simp only [List.length_map, List.length_range]
  rw [getD_range, getD_range]
  have h0 : ∀ k, xs.length + ys.length ≤ k → mulF xs.length ys.length (fn xs) (fn ys) k = 0 := fun k hk => mulF_over _ _ _ _ k hk
  by_cases hk : k < xs.length + ys.length + 1
  · rw [if_pos hk, dif_zero (a := mulF xs.length ys.length (fn xs) (fn ys)) (L := xs.length + ys.length + 1) (m := xs.length + ys.length + 1) (Nat.le_refl _) (fun t ht => ?_) hk]
    · by_cases h : k < xs.length + ys.length
      · rw [if_pos h]
      · rw [if_neg h, h0 k (by omega), wrap_zero]
    · show ((List.range (xs.length + ys.length + 1)).map (pv xs ys)).getD t 0 = _
      rw [getD_range, if_pos ht]
      unfold pv valL
      rw [val_more _ t (show xs.length + ys.length ≤ xs.length + ys.length + 1 by omega) h0, val_mul]
  · rw [if_neg hk, if_neg (by omega)]

theorem mulL_trim (xs ys : List Int) : mulL (trim xs) (trim ys) = trim (mulOut xs ys) := by
  unfold mulL mulOut
  rw [show fn (trim xs) = fn xs from funext (fn_trim xs), show fn (trim ys) = fn ys from funext (fn_trim ys)]

set_option maxHeartbeats 1600000 in
theorem refMul {w : World} {u v : Value} {xs ys : List Int} (h1 : xs.length ≤ 400) (h2 : ys.length ≤ 400) (hu : Ints w u xs) (hv : Ints w v ys) :
    Calls Try.prog 25 #[u, v] w fun e w' => ∃ r, e = .returned r ∧ Ints w' r (mulL xs ys) ∧ Below w.heap.size w w' := by
  obtain ⟨au, cu, rfl⟩ := hu.form
  obtain ⟨av, cv, rfl⟩ := hv.form
  have HU := Lib.hid hu
  have HV := Lib.hid hv
  have HF := Lib.hid (fit_mul xs ys)
  clear hu hv
  generalize G1 : xs.length = A at *
  generalize G2 : ys.length = B at *
  have HG1 := Lib.hid G1
  have HG2 := Lib.hid G2
  clear G1 G2
  have HO0 := Lib.hid (own_empty w 3)
  go_enter Try.func25, Try.ntmps25
  go_wp2
  go_loopw [5, 6] (fun v i wr => ∃ n : Nat, n ≤ A + B + 1 ∧ i = .int .i64 n ∧ wr.ownsRow w.heap.size 3 1 v ((List.range n).map (pv xs ys)).length (((List.range n).map (pv xs ys)).map (.int .i64)) ∧
      Below w.heap.size w wr) (fun _ i _ => A + B + 1 - (intOf i).toNat)
  case atStart => exact ⟨0, by omega, rfl, HO0.out, (Below.refl _ _).alloc (Nat.le_refl _) _⟩
  case round =>
    obtain ⟨n, hn, rfl, hown, hb⟩ := hrel
    have HO := Lib.hid hown
    have HB := Lib.hid hb
    clear hown hb
    by_cases hlt : n < A + B + 1
    · go_wp2_with fail
      refine (refAt n rfl (by omega) (by rw [HG1.out]; omega) (HU.out.below HB.out)).mono ?_
      rintro e w1 ⟨rfl, hb1⟩
      have HB1 := Lib.hid (HB.out.trans (hb1.mono HB.out.size))
      have HO1 := Lib.hid (own_below HO.out hb1 (fun k hk => (HO.out.lt k hk).2))
      clear hb1
      go_wp2_with fail
      refine (refAt n rfl (by omega) (by rw [HG2.out]; omega) (HV.out.below HB1.out)).mono ?_
      rintro e w2 ⟨rfl, hb2⟩
      have HB2 := Lib.hid (HB1.out.trans (hb2.mono HB1.out.size))
      have HO2 := Lib.hid (own_below HO1.out hb2 (fun k hk => (HO1.out.lt k hk).2))
      have HP := Lib.hid (show wrap64 (wrap64 (valL xs n) * wrap64 (valL ys n)) = pv xs ys n by unfold pv; rw [wrap_mul_l, wrap_mul_r])
      clear hb2
      go_wp2_with (at_builtin; refine wpList_append_ints rfl _ _ 24 3 rfl elInt w.heap.size (xs := (List.range n).map (pv xs ys)) (ys := [wrap64 (wrap64 (valL xs n) * wrap64 (valL ys n))]) rfl rfl (HO2.out.alloc _) ?c1 ?c2 ?c3 ?_)
      case c1 => exact ints_one (wrap_In _)
      case c2 => simp; omega
      case c3 => have := HB2.out.size; simp; omega
      intro v3 w3 hown3 hg3
      have HO3 : Hid (w3.ownsRow w.heap.size 3 1 v3 ((List.range (n + 1)).map (pv xs ys)).length (((List.range (n + 1)).map (pv xs ys)).map (.int .i64))) := Lib.hid (by
        have h := hown3
        rw [HP.out] at h
        rw [List.range_succ]
        simpa using h)
      have HB3 := Lib.hid ((HB2.out.alloc HB2.out.size _).grown hg3 (by have := HB2.out.size; simp; omega) (fun k hk => (HO2.out.lt k hk).1))
      clear hown3 hg3
      go_wp2
      go_roundw
      case rel => exact ⟨n + 1, by omega, by go_num, HO3.out, HB3.out⟩
      case measure => simp [intOf]; omega
    · obtain rfl : n = A + B + 1 := by omega
      have HI := Lib.hid (Ints.of_own HO.out (by simp; omega) (fun x hx => by
        obtain ⟨j, -, rfl⟩ := List.mem_map.1 hx
        exact wrap_In _))
      go_wp2_with fail
      refine (refFit HI.out).mono ?_
      rintro e w2 ⟨u2, rfl, hi2, hb2⟩
      rw [HF.out] at hi2
      have HI2 := Lib.hid hi2
      have HB2 := Lib.hid (HB.out.trans (hb2.mono HB.out.size))
      clear hi2 hb2
      go_wp2
      go_ret
      exact ⟨_, rfl, HI2.out, HB2.out⟩
end Go.Proofs.Ytpocmldhgnphlaa
