/- The simplest facts hold. -/
import Derived.Test.YtpocmldhgnphlaaAdd
namespace Go.Proofs.Ytpocmldhgnphlaa
set_option linter.unusedSimpArgs false
set_option linter.unusedVariables false
open Go.RowKit

theorem ints_lit {w : World} {e : TypeId} (xs : List Int) (a : Array Value) (ha : a = (xs.map (Value.int .i64)).toArray) (n : Nat) (hn : xs.length = n) (hb : n ≤ 1000) (hx : ∀ x ∈ xs, In64 x) :
    Ints (w.alloc (.cells a e)) (.slice (some ⟨w.heap.size, 0, none⟩) n n) xs := by
  subst hn
  exact ⟨(Blk.new _ ha).row (by simp) (Nat.le_refl _) (by unfold maxLen; omega) (by omega), hx⟩

set_option maxHeartbeats 1600000 in
theorem awake {w : World} : Calls Try.prog 13 #[] w fun e w' => e = .returned (.bool true) ∧ Below w.heap.size w w' := by
  have HL : Hid (Lists (((w.alloc (.cells #[.int .i64 1, .int .i64 2] 3)).alloc (.cells #[.int .i64 3] 3)).alloc (.cells #[.slice (some ⟨w.heap.size, 0, none⟩) 2 2, .slice (some ⟨w.heap.size + 1, 0, none⟩) 1 1] 24))
      (.slice (some ⟨w.heap.size + 1 + 1, 0, none⟩) 2 2) [[1, 2], [3]]) := by
    have h1 := ints_lit (w := w) (e := 3) [1, 2] #[.int .i64 1, .int .i64 2] rfl 2 rfl (by omega) (by simp [In64])
    have h2 := ints_lit (w := w.alloc (.cells #[.int .i64 1, .int .i64 2] 3)) (e := 3) [3] #[.int .i64 3] rfl 1 rfl (by omega) (by simp [In64])
    have h3 := lists_two (e := 24) (h1.below (w' := (w.alloc (.cells #[.int .i64 1, .int .i64 2] 3)).alloc (.cells #[.int .i64 3] 3)) ((Below.refl _ _).alloc (Nat.le_refl _) _)) h2
    exact Lib.hid (by simpa using h3)
  have HB : Hid (Below w.heap.size w (((w.alloc (.cells #[.int .i64 1, .int .i64 2] 3)).alloc (.cells #[.int .i64 3] 3)).alloc (.cells #[.slice (some ⟨w.heap.size, 0, none⟩) 2 2, .slice (some ⟨w.heap.size + 1, 0, none⟩) 1 1] 24))) :=
    (((Below.refl _ _).alloc (Nat.le_refl _) _).alloc (by simp) _).alloc (by simp; omega) _
  go_enter Try.func13, Try.ntmps13
  go_wp2_with fail
  refine (chainAdd HL.out).mono ?_
  rintro e w1 ⟨a, n, c, rfl, hi, hb⟩
  rw [show addR [[1, 2], [3]] = [4, 2] by decide +kernel] at hi
  rw [show errOf (List.any [[1, 2], [3]] isLong) = 0 by decide +kernel]
  have HB1 := Lib.hid (HB.out.trans (hb.mono HB.out.size))
  obtain ⟨_, _, b, o, hv, _, _, ha, hx⟩ := hi.parts
  cases hv
  obtain ⟨rfl, -⟩ := ha (by simp)
  have hc := hx 0 (by simp)
  have HI := Lib.hid hi
  clear hx ha hi hb
  simp only [List.length_cons, List.length_nil, Nat.reduceAdd, Nat.add_zero, List.getD_cons_zero] at hc HI ⊢
  go_wp2_with (go_at_call 22; refine (chainAt 3 (by unfold In64; omega) HI.out).mono ?_; rintro e w2 ⟨rfl, hb2⟩; rw [show atV [4, 2] 3 = 10 by decide +kernel]; have HB2 := Lib.hid (HB1.out.trans (hb2.mono HB1.out.size)); clear hb2)
  go_ret
  exact ⟨rfl, HB2.out⟩
end Go.Proofs.Ytpocmldhgnphlaa
