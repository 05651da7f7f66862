/- The smallest functions: lists that are the same, cut, trimmed. -/
import Derived.Test.YtpocmldhgnphlaaLib
namespace Go.Proofs.Ytpocmldhgnphlaa
set_option linter.unusedSimpArgs false
set_option linter.unusedVariables false
open Go.RowKit

theorem list_eq {xs ys : List Int} (hl : xs.length = ys.length) (h : ∀ j, j < xs.length → xs.getD j 0 = ys.getD j 0) : xs = ys := by
  apply List.ext_getElem hl
  intro i h1 h2
  have := h i h1
  simpa [List.getD_eq_getElem?_getD, h1, h2] using this

set_option maxHeartbeats 400000 in
theorem sameInts {w : World} {u v : Value} {xs ys : List Int} (hu : Ints w u xs) (hv : Ints w v ys) :
    Calls Try.prog 14 #[u, v] w fun e w' => e = .returned (.bool (decide (xs = ys))) ∧ ∃ n, w' = w.drewN n := by
  have hl1 := hu.le
  have hl2 := hv.le
  obtain ⟨a1, c1, b1, o1, rfl, hc1, hm1, ha1, hx⟩ := hu.parts
  obtain ⟨a2, c2, b2, o2, rfl, hc2, hm2, ha2, hy⟩ := hv.parts
  clear hu hv
  generalize H1 : xs.length = n1 at *
  generalize H2 : ys.length = n2 at *
  have G1 := Lib.hid H1
  have G2 := Lib.hid H2
  clear H1 H2
  by_cases hne : n1 = n2
  · subst hne
    go_enter Try.func14, Try.ntmps14
    go_wp2
    go_loopw [4, 5] (fun r i wr => r = .bool false ∧ ∃ k : Nat, k ≤ n1 ∧ i = .int .i64 k ∧ (∀ j, j < k → xs.getD j 0 = ys.getD j 0) ∧ ∃ n, wr = w.drewN n) (fun _ i _ => n1 - (intOf i).toNat)
    case atStart => exact ⟨rfl, 0, by omega, rfl, by simp, 0, rfl⟩
    case round =>
      obtain ⟨rfl, k, hk, rfl, hsame, n, rfl⟩ := hrel
      have HS := Lib.hid hsame
      clear hsame
      by_cases hlt : k < n1
      · obtain ⟨rfl, -⟩ := ha1 (by omega)
        obtain ⟨rfl, -⟩ := ha2 (by omega)
        have hxk := hx k hlt
        have hyk := hy k hlt
        clear hx hy ha1 ha2
        generalize G3 : xs.getD k 0 = p at *
        generalize G4 : ys.getD k 0 = q at *
        have H3 := Lib.hid G3
        have H4 := Lib.hid G4
        clear G3 G4
        by_cases hpq : p = q
        · subst hpq
          go_wp2
          go_quiet (fail)
          go_wp2
          go_roundw
          case rel =>
            refine ⟨rfl, k + 1, by omega, by go_num, ?_, _, rfl⟩
            intro j hj
            by_cases e : j = k
            · subst e; rw [H3.out, H4.out]
            · exact HS.out j (by omega)
          case measure => simp [intOf]; omega
        · go_wp2
          go_quiet (fail)
          go_wp2
          go_ret
          exact ⟨ret_bool (decide_eq_false (fun e => hpq (by rw [← H3.out, ← H4.out, e]))).symm, drewN_two _ _ _⟩
      · have hkn : k = n1 := by omega
        subst hkn
        go_wp2
        go_ret
        exact ⟨ret_bool (decide_eq_true (list_eq (by rw [G1.out, G2.out]) (by rw [G1.out]; exact HS.out))).symm, _, rfl⟩
  · go_enter Try.func14, Try.ntmps14
    go_wp2
    go_ret
    exact ⟨ret_bool (decide_eq_false (fun e => hne (by rw [← G1.out, ← G2.out, e]))).symm, 0, rfl⟩

/-- A list without the zeros at its end. -/
def trim (xs : List Int) : List Int := (xs.reverse.dropWhile (· == 0)).reverse

set_option maxHeartbeats 400000 in
theorem cut {w : World} {v : Value} {xs : List Int} (m : Nat) (hm : m ≤ 9223372036854775807) (hv : Ints w v xs) :
    Calls Try.prog 16 #[v, .int .i64 m] w fun e w' => ∃ u, e = .returned u ∧ Ints w u (xs.take m) ∧ w' = w := by
  have hv0 := hv
  have hl := hv.le
  obtain ⟨a, c, b, o, rfl, hc, hm', -, -⟩ := hv.parts
  clear hv
  have HV := Lib.hid hv0
  clear hv0
  generalize H1 : xs.length = n at *
  have G1 := Lib.hid H1
  clear H1
  by_cases hlt : m < n
  · go_enter Try.func16, Try.ntmps16
    go_wp2
    go_ret
    exact ⟨_, rfl, HV.out.take (by rw [G1.out]; omega), rfl⟩
  · go_enter Try.func16, Try.ntmps16
    go_wp2
    go_ret
    exact ⟨_, rfl, by rw [List.take_of_length_le (by rw [G1.out]; omega)]; exact HV.out, rfl⟩
end Go.Proofs.Ytpocmldhgnphlaa
