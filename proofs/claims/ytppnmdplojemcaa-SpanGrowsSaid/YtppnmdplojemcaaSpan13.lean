/- What is made of numbers of spans is in what is made of the spans: the plain law. -/
import Derived.Test.YtppnmdplojemcaaSpan12
namespace Go.Proofs.Ytppnmdplojemcaa
set_option linter.unusedSimpArgs false
set_option linter.unusedVariables false
open Go.RowKit

def inB (s : Sp) (n : Int) : Bool := decide (s.lo ≤ n) && decide (n ≤ s.hi)
theorem inB_iff (s : Sp) (n : Int) : inB s n = true ↔ s.lo ≤ n ∧ n ≤ s.hi := by simp [inB]
theorem some_iff (s : Sp) : s.none = false ↔ s.lo ≤ s.hi := by simp [Sp.none]
theorem all_in {n : Int} (h : In64 n) : inB ⟨-9223372036854775808, 9223372036854775807⟩ n = true := (inB_iff _ _).2 h

theorem add_in {a b : Sp} {x y : Int} (ha : a.none = false) (hb : b.none = false) (hx : inB a x = true) (hy : inB b y = true) (oa : a.ok) (ob : b.ok) : inB (addQ a b) (wrap64 (x + y)) = true := by
  rw [inB_iff] at hx hy
  obtain ⟨⟨a1, a2⟩, a3, a4⟩ := oa
  obtain ⟨⟨b1, b2⟩, b3, b4⟩ := ob
  unfold addQ
  rw [ha, hb]
  simp only [Bool.or_self, Bool.false_eq_true, if_false]
  split
  · rename_i h
    rw [inB_iff]
    unfold offI at h
    simp only
    unfold wrap64 at *
    omega
  · exact all_in (wrap_In _)
theorem sub_in {a b : Sp} {x y : Int} (ha : a.none = false) (hb : b.none = false) (hx : inB a x = true) (hy : inB b y = true) (oa : a.ok) (ob : b.ok) : inB (subQ a b) (wrap64 (x - y)) = true := by
  rw [inB_iff] at hx hy
  obtain ⟨⟨a1, a2⟩, a3, a4⟩ := oa
  obtain ⟨⟨b1, b2⟩, b3, b4⟩ := ob
  unfold subQ
  rw [ha, hb]
  simp only [Bool.or_self, Bool.false_eq_true, if_false]
  split
  · rename_i h
    rw [inB_iff]
    unfold offI at h
    simp only
    unfold wrap64 at *
    omega
  · exact all_in (wrap_In _)

/-- What a join holds. -/
theorem join_keeps (l : List Sp) (o : Sp) (x : Int) (h : inB o x = true) : inB (l.foldl joinStep o) x = true := by
  induction l generalizing o with
  | nil => exact h
  | cons s l ih =>
    refine ih _ ?_
    rw [inB_iff] at h
    have hn : o.none = false := (some_iff o).2 (by omega)
    unfold joinStep
    rw [hn]
    simp only [Bool.false_eq_true, if_false]
    split
    · rw [inB_iff]; exact h
    · rw [inB_iff]; simp only; (repeat' split) <;> omega
theorem join_has (l : List Sp) (o s : Sp) (x : Int) (hs : s ∈ l) (h : inB s x = true) : inB (l.foldl joinStep o) x = true := by
  induction l generalizing o with
  | nil => cases hs
  | cons t l ih =>
    rcases List.mem_cons.1 hs with rfl | hs
    · refine join_keeps l _ x ?_
      rw [inB_iff] at h
      have hn : s.none = false := (some_iff s).2 (by omega)
      unfold joinStep
      rw [hn]
      simp only [Bool.false_eq_true, if_false]
      split
      · rw [inB_iff]; exact h
      · rw [inB_iff]; simp only; (repeat' split) <;> omega
    · exact ih _ hs
theorem join_in {l : List Sp} {s : Sp} {x : Int} (hs : s ∈ l) (h : inB s x = true) : inB (joinL l) x = true := join_has l _ s x hs h

theorem between_mul {p x q y : Int} (h1 : p ≤ x) (h2 : x ≤ q) : (p * y ≤ x * y ∧ x * y ≤ q * y) ∨ (q * y ≤ x * y ∧ x * y ≤ p * y) := by
  rcases Int.le_total 0 y with h | h
  · exact .inl ⟨Int.mul_le_mul_of_nonneg_right h1 h, Int.mul_le_mul_of_nonneg_right h2 h⟩
  · exact .inr ⟨Int.mul_le_mul_of_nonpos_right h2 h, Int.mul_le_mul_of_nonpos_right h1 h⟩
theorem between_mul' {p x q y : Int} (h1 : p ≤ x) (h2 : x ≤ q) : (y * p ≤ y * x ∧ y * x ≤ y * q) ∨ (y * q ≤ y * x ∧ y * x ≤ y * p) := by
  have := between_mul (y := y) h1 h2
  simpa [Int.mul_comm] using this
theorem pr_mem (a b : Sp) {k : Nat} (hk : k < 4) : pt (pr a b k) ∈ prL a b 4 := List.mem_map.2 ⟨k, by simpa using hk, rfl⟩
theorem pt_in (p : Int) : inB (pt p) p = true := by simp [inB, pt]
theorem prod_in {a b : Sp} {x y : Int} (hx : inB a x = true) (hy : inB b y = true) : inB (joinL (prL a b 4)) (x * y) = true := by
  have h0 := join_in (pr_mem a b (k := 0) (by omega)) (pt_in _)
  have h1 := join_in (pr_mem a b (k := 1) (by omega)) (pt_in _)
  have h2 := join_in (pr_mem a b (k := 2) (by omega)) (pt_in _)
  have h3 := join_in (pr_mem a b (k := 3) (by omega)) (pt_in _)
  rw [inB_iff] at *
  simp only [pr] at h0 h1 h2 h3
  have e0 := between_mul (y := y) hx.1 hx.2
  have e1 := between_mul' (y := a.lo) hy.1 hy.2
  have e2 := between_mul' (y := a.hi) hy.1 hy.2
  generalize joinL (prL a b 4) = j at *
  generalize a.lo * b.lo = p0 at *
  generalize a.lo * b.hi = p1 at *
  generalize a.hi * b.lo = p2 at *
  generalize a.hi * b.hi = p3 at *
  generalize a.lo * y = q0 at *
  generalize a.hi * y = q1 at *
  generalize x * y = z at *
  omega
theorem mulS_ok (a b : Sp) : (mulS a b).ok := by
  unfold mulS
  split
  · exact none_ok
  · split
    · rename_i h
      simp only [Bool.and_eq_true, fitB_iff] at h
      obtain ⟨⟨⟨e0, e1⟩, e2⟩, e3⟩ := h
      exact joinL_ok _ (prL_ok (prF_succ (prF_succ (prF_succ (prF_succ (prF_zero a b) e0) e1) e2) e3))
    · exact ⟨⟨by decide, by decide⟩, by decide, by decide⟩
theorem mul_in {a b : Sp} {x y : Int} (ha : a.none = false) (hb : b.none = false) (hx : inB a x = true) (hy : inB b y = true) : inB (mulS a b) (wrap64 (x * y)) = true := by
  have hok := mulS_ok a b
  unfold mulS at *
  rw [ha, hb] at *
  simp only [Bool.or_self, Bool.false_eq_true, if_false] at *
  split
  · rename_i h
    rw [if_pos h] at hok
    have := prod_in hx hy
    have hz : In64 (x * y) := by
      rw [inB_iff] at this
      obtain ⟨⟨o1, o2⟩, o3, o4⟩ := hok
      exact ⟨by omega, by omega⟩
    rw [wrap_in hz]; exact this
  · exact all_in (wrap_In _)
theorem meetS_two (a b : Sp) (ha : a.none = false) (hb : b.none = false) (oa : a.ok) (ob : b.ok) {x : Int} (hx : inB a x = true) : inB (meetS [a, b]) x = inB b x := by
  rw [inB_iff] at hx
  obtain ⟨⟨a1, a2⟩, a3, a4⟩ := oa
  obtain ⟨⟨b1, b2⟩, b3, b4⟩ := ob
  rw [some_iff] at ha hb
  rw [Bool.eq_iff_iff, inB_iff, inB_iff]
  unfold meetS
  have h1 : [a, b].any Sp.none = false := by simp [Sp.none]; omega
  rw [h1, Bool.false_or]
  have e : meetL [a, b] = meetStep (meetStep allS a) b := rfl
  rw [e]
  unfold meetStep allS
  simp only
  cases hn : Sp.none _
  · simp only [Bool.false_eq_true, if_false]
    (repeat' split) <;> omega
  · simp only [if_true]
    simp only [Sp.none, decide_eq_true_eq] at hn
    revert hn
    (repeat' split) <;> omega
theorem less_in {a b : Sp} {x y : Int} (ha : a.none = false) (hb : b.none = false) (hx : inB a x = true) (hy : inB b y = true) : lessI a b = -1 ∨ (lessI a b = 1 ∧ x < y) ∨ (lessI a b = 0 ∧ y ≤ x) := by
  rw [inB_iff] at hx hy
  unfold lessI
  rw [ha, hb]
  simp only [Bool.or_self, Bool.false_eq_true, if_false]
  (repeat' split) <;> omega

/-- Some number of a span. -/
def numI (s : Sp) (n : Int) : Int := if s.hi - s.lo = 18446744073709551615 then wrap64 n else s.lo + n % (s.hi - s.lo + 1)
theorem numI_in {s : Sp} (hs : s.none = false) (os : s.ok) (n : Int) : inB s (numI s n) = true := by
  rw [some_iff] at hs
  obtain ⟨⟨a1, a2⟩, a3, a4⟩ := os
  rw [inB_iff]
  unfold numI
  split
  · unfold wrap64; omega
  · have h1 := Int.emod_nonneg n (show s.hi - s.lo + 1 ≠ 0 by omega)
    have h2 := Int.emod_lt_of_pos n (show 0 < s.hi - s.lo + 1 by omega)
    omega
theorem numI_64 {s : Sp} (hs : s.none = false) (os : s.ok) (n : Int) : In64 (numI s n) := by
  have h := numI_in hs os n
  rw [inB_iff] at h
  obtain ⟨⟨a1, a2⟩, a3, a4⟩ := os
  exact ⟨by omega, by omega⟩
end Go.Proofs.Ytppnmdplojemcaa
