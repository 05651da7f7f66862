/- What is made of numbers of spans is in what is made of the spans: the walk. -/
import Derived.Test.YtppnmdplojemcaaSpan13
namespace Go.Proofs.Ytppnmdplojemcaa
set_option linter.unusedSimpArgs false
set_option linter.unusedVariables false
open Go.RowKit

set_option maxHeartbeats 1600000 in
theorem lawIn {w : World} (s : Sp) (n : Int) : Calls Try.prog 23 #[s.val, .int .i64 n] w fun e w' => e = .returned (.bool (inB s n)) ∧ Below w.heap.size w w' := by
  have HB := Lib.hid (below_one w (.cells #[.int .i64 s.lo, .int .i64 s.hi] 23))
  unfold Sp.val
  cases h1 : decide (s.lo ≤ n) <;> cases h2 : decide (n ≤ s.hi)
  all_goals
    have HI := Lib.hid (show inB s n = _ by unfold inB; rw [h1, h2])
    go_enter Try.func23, Try.ntmps23
    go_wp2
    go_ret
    exact ⟨ret_bool HI.out.symm, HB.out⟩

def hold1B (a b : Sp) : Bool := b.none || (decide (a.lo ≤ b.lo) && decide (b.hi ≤ a.hi))
set_option maxHeartbeats 1600000 in
theorem lawHolds1 {w : World} (a b : Sp) : Calls Try.prog 24 #[a.val, b.val] w fun e w' => e = .returned (.bool (hold1B a b)) ∧ Below w.heap.size w w' := by
  have HB := Lib.hid (below_alloc (below_one (w.alloc (.cells #[.int .i64 a.lo, .int .i64 a.hi] 23)) (.cells #[.int .i64 b.lo, .int .i64 b.hi] 23)))
  unfold Sp.val
  cases h0 : decide (b.hi < b.lo) <;> cases h1 : decide (a.lo ≤ b.lo) <;> cases h2 : decide (b.hi ≤ a.hi)
  all_goals
    have HI := Lib.hid (show hold1B a b = _ by unfold hold1B Sp.none; rw [h0, h1, h2])
    go_enter Try.func24, Try.ntmps24
    go_wp2
    go_ret
    exact ⟨ret_bool HI.out.symm, HB.out⟩

set_option maxHeartbeats 1600000 in
theorem lawNumber {w : World} (s : Sp) (n : Int) (hs : s.none = false) (os : s.ok) (h0 : 0 ≤ n) (h1 : n < 18446744073709551616) :
    Calls Try.prog 22 #[s.val, .int .u64 n] w fun e w' => e = .returned (.int .i64 (numI s n)) ∧ Below w.heap.size w w' := by
  have HS := Lib.hid hs
  have HO := Lib.hid os
  have HN := Lib.hid (numI_64 hs os n)
  rw [some_iff] at hs
  obtain ⟨⟨a1, a2⟩, a3, a4⟩ := os
  obtain ⟨D, hD⟩ : ∃ D, D = s.hi - s.lo := ⟨_, rfl⟩
  have E1 : IntKind.u64.wrap (IntKind.u64.wrap s.hi - IntKind.u64.wrap s.lo) = D := by rw [u64w, u64w, u64w]; omega
  have HD := Lib.hid hD
  have d0 : 0 ≤ D := by omega
  have d1 : D ≤ 18446744073709551615 := by omega
  clear hD hs a1 a2 a3 a4
  unfold Sp.val
  go_enter Try.func22, Try.ntmps22
  go_upto_region 1 with (fail)
  have B2 : Hid (Box (w.alloc (.cells #[.int .i64 s.lo, .int .i64 s.hi] 23)) (w.heap.size) #[.int .i64 s.lo, .int .i64 s.hi]) := Lib.hid (by simpa using (Box.new w #[.int .i64 s.lo, .int .i64 s.hi] 23))
  have HW : Hid (Below w.heap.size w (w.alloc (.cells #[.int .i64 s.lo, .int .i64 s.hi] 23))) := Lib.hid ((Below.refl _ _).alloc (Nat.le_refl _) _)
  generalize (w.alloc (.cells #[.int .i64 s.lo, .int .i64 s.hi] 23)) = wv at *
  obtain ⟨lB2, cB2, fB2⟩ := B2.out
  cases ht : (D == 18446744073709551615)
  case true =>
    have HQ := Lib.hid (show numI s n = wrap64 n by unfold numI; rw [← HD.out, if_pos (by simpa using ht)])
    go_wp2
    go_ret
    exact ⟨ret_int (by rw [HQ.out]), HW.out⟩
  case false =>
    have hne : D ≠ 18446744073709551615 := by simpa using ht
    have HQ := Lib.hid (show numI s n = s.lo + n % (D + 1) by unfold numI; rw [← HD.out, if_neg hne])
    have d2 : D < 18446744073709551615 := by omega
    have d3 : (D + 1 = 0) = False := by simp; omega
    have E2 : IntKind.u64.wrap (D + 1) = D + 1 := by rw [u64w]; omega
    have E3 : n.tmod (D + 1) = n % (D + 1) := Int.tmod_eq_emod_of_nonneg h0
    have EN : Hid (wrap64 (IntKind.u64.wrap (IntKind.u64.wrap s.lo + n % (D + 1))) = s.lo + n % (D + 1)) := Lib.hid (by
      have := HN.out
      rw [HQ.out] at this
      obtain ⟨q1, q2⟩ := this
      rw [u64w, u64w]
      generalize n % (D + 1) = r at *
      unfold wrap64; omega)
    clear hne
    go_upto_region 4 with (fail)
    refine wp_region_grow 10 (fun _ => .plain) (by kernel_rfl) (by kernel_rfl) ?_ (fun ν => ?_)
    · exact fun _ => trivial
    simp only [List.take_succ_cons, List.take_zero, List.drop_succ_cons, List.drop_zero]
    refine Grow.val (v := ?_) rfl rfl (fun wg hbg hdg => ?_) ?_
    rotate_left
    focus ((obtain ⟨lg0, cg0, fg0⟩ := B2.out.later hbg); clear hbg hdg; first | (go_simp; done) | (go_simp; with_reducible rfl))
    simp only [Act.put, List.setIfInBounds_toArray, List.set_cons_zero, List.set_cons_succ]
    refine Grow.val (v := ?_) rfl rfl (fun wg hbg hdg => ?_) ?_
    rotate_left
    focus ((obtain ⟨lg0, cg0, fg0⟩ := B2.out.later hbg); clear hbg hdg; first | (go_simp; done) | (go_simp; with_reducible rfl))
    simp only [Act.put, List.setIfInBounds_toArray, List.set_cons_zero, List.set_cons_succ]
    refine Grow.val (v := ?_) rfl rfl (fun wg hbg hdg => ?_) ?_
    rotate_left
    focus ((obtain ⟨lg0, cg0, fg0⟩ := B2.out.later hbg); clear hbg hdg; first | (go_simp; done) | (go_simp; with_reducible rfl))
    simp only [Act.put, List.setIfInBounds_toArray, List.set_cons_zero, List.set_cons_succ]
    refine Grow.val (v := ?_) rfl rfl (fun wg hbg hdg => ?_) ?_
    rotate_left
    focus ((obtain ⟨lg0, cg0, fg0⟩ := B2.out.later hbg); clear hbg hdg; first | (go_simp; done) | (go_simp; with_reducible rfl))
    simp only [Act.put, List.setIfInBounds_toArray, List.set_cons_zero, List.set_cons_succ]
    refine Grow.val (v := ?_) rfl rfl (fun wg hbg hdg => ?_) ?_
    rotate_left
    focus ((obtain ⟨lg0, cg0, fg0⟩ := B2.out.later hbg); clear hbg hdg; first | (go_simp; done) | (go_simp; with_reducible rfl))
    simp only [Act.put, List.setIfInBounds_toArray, List.set_cons_zero, List.set_cons_succ]
    refine Grow.val (v := ?_) rfl rfl (fun wg hbg hdg => ?_) ?_
    rotate_left
    focus ((obtain ⟨lg0, cg0, fg0⟩ := B2.out.later hbg); clear hbg hdg; first | (go_simp; done) | (go_simp; with_reducible rfl))
    simp only [Act.put, List.setIfInBounds_toArray, List.set_cons_zero, List.set_cons_succ]
    refine Grow.val (v := ?_) rfl rfl (fun wg hbg hdg => ?_) ?_
    rotate_left
    focus ((obtain ⟨lg0, cg0, fg0⟩ := B2.out.later hbg); clear hbg hdg; first | (go_simp; done) | (go_simp; with_reducible rfl))
    simp only [Act.put, List.setIfInBounds_toArray, List.set_cons_zero, List.set_cons_succ]
    refine Grow.val (v := ?_) rfl rfl (fun wg hbg hdg => ?_) ?_
    rotate_left
    focus ((obtain ⟨lg0, cg0, fg0⟩ := B2.out.later hbg); clear hbg hdg; first | (go_simp; done) | (go_simp; with_reducible rfl))
    simp only [Act.put, List.setIfInBounds_toArray, List.set_cons_zero, List.set_cons_succ]
    refine Grow.val (v := ?_) rfl rfl (fun wg hbg hdg => ?_) ?_
    rotate_left
    focus ((obtain ⟨lg0, cg0, fg0⟩ := B2.out.later hbg); clear hbg hdg; first | (go_simp; done) | (go_simp; with_reducible rfl))
    simp only [Act.put, List.setIfInBounds_toArray, List.set_cons_zero, List.set_cons_succ]
    refine Grow.val (v := ?_) rfl rfl (fun wg hbg hdg => ?_) ?_
    rotate_left
    focus ((obtain ⟨lg0, cg0, fg0⟩ := B2.out.later hbg); clear hbg hdg; first | (go_simp; done) | (go_simp; with_reducible rfl))
    simp only [Act.put, List.setIfInBounds_toArray, List.set_cons_zero, List.set_cons_succ]
    intro wg hb hf hap
    clear hap
    clear lB2 cB2 fB2
    replace B2 := Lib.hid (B2.out.later hb)
    replace HW := Lib.hid (HW.out.trans (hb.mono HW.out.size))
    clear hb
    obtain ⟨lB2, cB2, fB2⟩ := B2.out
    clear hf
    go_wp2
    go_ret
    exact ⟨ret_int (by rw [HQ.out, i64_wrap]; exact EN.out), HW.out⟩
end Go.Proofs.Ytppnmdplojemcaa
