/- Plain laws of chains of recurrences modulo 2^64: binomials, values, differences, products. No program. -/
import Derived.RowKit
namespace Go.Proofs.Ytefpmjnimnmniaa
set_option linter.unusedSimpArgs false
set_option linter.unusedVariables false
open Go.RowKit

def In64 (x : Int) : Prop := -9223372036854775808 ≤ x ∧ x ≤ 9223372036854775807

theorem wrap_in {x : Int} (h : In64 x) : wrap64 x = x := by unfold In64 at h; unfold wrap64; omega
theorem wrap_In (x : Int) : In64 (wrap64 x) := by unfold In64 wrap64; omega
theorem wrap_mod (x : Int) : ∃ k, wrap64 x = x + 18446744073709551616 * k := ⟨-((x + 9223372036854775808) / 18446744073709551616), by unfold wrap64; omega⟩
theorem wrap_eq {x y : Int} (k : Int) (h : x = y + 18446744073709551616 * k) : wrap64 x = wrap64 y := by unfold wrap64; omega
theorem wrap_zero : wrap64 0 = 0 := wrap_in ⟨by omega, by omega⟩
theorem wrap_wrap (x : Int) : wrap64 (wrap64 x) = wrap64 x := wrap_in (wrap_In x)
theorem wrap_add_l (x y : Int) : wrap64 (wrap64 x + y) = wrap64 (x + y) := by obtain ⟨k, h⟩ := wrap_mod x; exact wrap_eq k (by rw [h]; omega)
theorem wrap_add_r (x y : Int) : wrap64 (x + wrap64 y) = wrap64 (x + y) := by obtain ⟨k, h⟩ := wrap_mod y; exact wrap_eq k (by rw [h]; omega)
theorem wrap_sub_l (x y : Int) : wrap64 (wrap64 x - y) = wrap64 (x - y) := by obtain ⟨k, h⟩ := wrap_mod x; exact wrap_eq k (by rw [h]; omega)
theorem wrap_sub_r (x y : Int) : wrap64 (x - wrap64 y) = wrap64 (x - y) := by obtain ⟨k, h⟩ := wrap_mod y; exact wrap_eq (-k) (by rw [h]; omega)
theorem wrap_mul_l (x y : Int) : wrap64 (wrap64 x * y) = wrap64 (x * y) := by obtain ⟨k, h⟩ := wrap_mod x; exact wrap_eq (k * y) (by rw [h]; grind)
theorem wrap_mul_r (x y : Int) : wrap64 (x * wrap64 y) = wrap64 (x * y) := by rw [Int.mul_comm, wrap_mul_l, Int.mul_comm]

/-- Binomials, by Pascal's rule. -/
def bin : Nat → Nat → Nat
  | _, 0 => 1
  | 0, _ + 1 => 0
  | n + 1, k + 1 => bin n k + bin n (k + 1)

@[simp] theorem bin_zero (n : Nat) : bin n 0 = 1 := by cases n <;> rfl
@[simp] theorem bin_zero_succ (k : Nat) : bin 0 (k + 1) = 0 := rfl
theorem bin_succ (n k : Nat) : bin (n + 1) (k + 1) = bin n k + bin n (k + 1) := rfl
theorem bin_over {n k : Nat} (h : n < k) : bin n k = 0 := by
  induction n generalizing k with
  | zero => obtain ⟨k, rfl⟩ : ∃ q, k = q + 1 := ⟨k - 1, by omega⟩; rfl
  | succ n ih =>
    obtain ⟨k, rfl⟩ : ∃ q, k = q + 1 := ⟨k - 1, by omega⟩
    rw [bin_succ, ih (by omega), ih (by omega)]
theorem bin_self (n : Nat) : bin n n = 1 := by
  induction n with
  | zero => rfl
  | succ n ih => rw [bin_succ, ih, bin_over (by omega)]
theorem bin_pos {n k : Nat} (h : k ≤ n) : 0 < bin n k := by
  induction n generalizing k with
  | zero =>
    obtain rfl : k = 0 := by omega
    simp
  | succ n ih =>
    cases k with
    | zero => simp
    | succ k => rw [bin_succ]; have := ih (k := k) (by omega); omega
theorem bin_one (n : Nat) : bin n 1 = n := by
  induction n with
  | zero => rfl
  | succ n ih => rw [bin_succ, ih, bin_zero]; omega
/-- C(n, k+1) (k+1) = C(n, k) (n-k). -/
theorem bin_mul (n k : Nat) (h : k ≤ n) : bin n (k + 1) * (k + 1) = bin n k * (n - k) := by
  induction n generalizing k with
  | zero =>
    obtain rfl : k = 0 := by omega
    rfl
  | succ n ih =>
    cases k with
    | zero => rw [bin_one, bin_zero]; omega
    | succ k =>
      have h1 := ih k (by omega)
      rw [bin_succ n (k + 1), bin_succ n k]
      by_cases hk : k + 1 ≤ n
      · have h2 := ih (k + 1) hk
        have e1 : n + 1 - (k + 1) = (n - (k + 1)) + 1 := by omega
        have e2 : n - k = (n - (k + 1)) + 1 := by omega
        rw [e1]
        rw [e2] at h1
        generalize n - (k + 1) = d at *
        grind
      · obtain rfl : k = n := by omega
        rw [bin_over (show k < k + 1 by omega), bin_over (show k < k + 1 + 1 by omega)]
        simp

def sumN : Nat → (Nat → Int) → Int
  | 0, _ => 0
  | n + 1, f => sumN n f + f n

theorem sumN_congr {n : Nat} {f g : Nat → Int} (h : ∀ i, i < n → f i = g i) : sumN n f = sumN n g := by
  induction n with
  | zero => rfl
  | succ n ih => simp only [sumN]; rw [ih (fun i hi => h i (by omega)), h n (by omega)]
theorem sumN_zero {n : Nat} {f : Nat → Int} (h : ∀ i, i < n → f i = 0) : sumN n f = 0 := by
  induction n with
  | zero => rfl
  | succ n ih => simp only [sumN]; rw [ih (fun i hi => h i (by omega)), h n (by omega)]; rfl
theorem sumN_add (n : Nat) (f g : Nat → Int) : sumN n (fun i => f i + g i) = sumN n f + sumN n g := by
  induction n with
  | zero => rfl
  | succ n ih => simp only [sumN, ih]; omega
theorem sumN_sub (n : Nat) (f g : Nat → Int) : sumN n (fun i => f i - g i) = sumN n f - sumN n g := by
  induction n with
  | zero => rfl
  | succ n ih => simp only [sumN, ih]; omega
theorem sumN_mul (n : Nat) (c : Int) (f : Nat → Int) : sumN n (fun i => c * f i) = c * sumN n f := by
  induction n with
  | zero => simp [sumN]
  | succ n ih => simp only [sumN, ih, Int.mul_add]
theorem sumN_mul_r (n : Nat) (c : Int) (f : Nat → Int) : sumN n (fun i => f i * c) = sumN n f * c := by
  rw [Int.mul_comm, ← sumN_mul]; exact sumN_congr fun i _ => Int.mul_comm _ _
theorem sumN_swap (n m : Nat) (f : Nat → Nat → Int) : sumN n (fun i => sumN m (f i)) = sumN m (fun j => sumN n (fun i => f i j)) := by
  induction n with
  | zero => simp only [sumN]; exact (sumN_zero fun _ _ => rfl).symm
  | succ n ih => simp only [sumN, ih, sumN_add]
theorem sumN_more {n m : Nat} (f : Nat → Int) (h : n ≤ m) (h0 : ∀ i, n ≤ i → i < m → f i = 0) : sumN m f = sumN n f := by
  induction m with
  | zero =>
    obtain rfl : n = 0 := by omega
    rfl
  | succ m ih =>
    by_cases e : n = m + 1
    · rw [e]
    · simp only [sumN]
      rw [h0 m (by omega) (by omega), ih (by omega) (fun i h1 h2 => h0 i h1 (by omega))]; omega
theorem sumN_shift (n : Nat) (f : Nat → Int) : sumN (n + 1) f = f 0 + sumN n (fun i => f (i + 1)) := by
  induction n with
  | zero => simp [sumN]
  | succ n ih => rw [sumN, ih]; simp only [sumN]; omega
theorem sumN_wrap (n : Nat) (f g : Nat → Int) (h : ∀ i, i < n → wrap64 (f i) = wrap64 (g i)) : wrap64 (sumN n f) = wrap64 (sumN n g) := by
  induction n with
  | zero => rfl
  | succ n ih =>
    simp only [sumN]
    rw [← wrap_add_l, ih (fun i hi => h i (by omega)), wrap_add_l, ← wrap_add_r, h n (by omega), wrap_add_r]

/-- The value behind n rounds of the chain with the numbers f 0 .. f (L-1). -/
def val (L : Nat) (f : Nat → Int) (n : Nat) : Int := sumN L (fun k => f k * (bin n k : Nat))

theorem val_zero (L : Nat) (f : Nat → Int) : val (L + 1) f 0 = f 0 := by
  unfold val
  rw [sumN_shift, sumN_zero (fun i _ => by simp)]
  simp
theorem val_succ (L : Nat) (f : Nat → Int) (n : Nat) : val (L + 1) f (n + 1) = val (L + 1) f n + val L (fun k => f (k + 1)) n := by
  unfold val
  rw [sumN_shift, sumN_shift, Int.add_assoc, ← sumN_add]
  simp only [bin_zero]
  congr 1
  exact sumN_congr fun i _ => by rw [bin_succ]; push_cast; grind
theorem val_more {L M : Nat} (f : Nat → Int) (n : Nat) (h : L ≤ M) (h0 : ∀ k, L ≤ k → f k = 0) : val M f n = val L f n :=
  sumN_more _ h fun i h1 _ => by rw [h0 i h1]; simp
theorem val_congr {L : Nat} {f g : Nat → Int} (n : Nat) (h : ∀ k, k < L → f k = g k) : val L f n = val L g n := sumN_congr fun i hi => by rw [h i hi]
theorem val_wrap {L : Nat} {f g : Nat → Int} (n : Nat) (h : ∀ k, k < L → wrap64 (f k) = wrap64 (g k)) : wrap64 (val L f n) = wrap64 (val L g n) :=
  sumN_wrap _ _ _ fun i hi => by rw [← wrap_mul_l, h i hi, wrap_mul_l]
theorem val_add (L : Nat) (f g : Nat → Int) (n : Nat) : val L (fun k => f k + g k) n = val L f n + val L g n := by
  unfold val
  rw [← sumN_add]
  exact sumN_congr fun i _ => Int.add_mul _ _ _

/-- How often C(n, k) stands in C(n, i) C(n, j). -/
def mulc (i j k : Nat) : Nat := if k < j then 0 else bin k i * bin i (k - j)

theorem mulc_over {i j k : Nat} (h : i + j < k) : mulc i j k = 0 := by
  unfold mulc; rw [if_neg (by omega), bin_over (n := i) (by omega)]; simp
theorem mulc_under {i j k : Nat} (h : k < i ∨ k < j) : mulc i j k = 0 := by
  unfold mulc
  rcases h with h | h
  · split
    · rfl
    · rw [bin_over h]; simp
  · rw [if_pos h]
theorem mulc_zero_l (j k : Nat) : mulc 0 j k = if k = j then 1 else 0 := by
  unfold mulc
  by_cases h : k < j
  · rw [if_pos h, if_neg (by omega)]
  · rw [if_neg h]
    by_cases e : k = j
    · subst e; simp
    · rw [if_neg e, bin_over (n := 0) (by omega)]; simp
theorem mulc_zero_r (i k : Nat) : mulc i 0 k = if k = i then 1 else 0 := by
  unfold mulc
  rw [if_neg (by omega), Nat.sub_zero]
  by_cases e : k = i
  · subst e; simp [bin_self]
  · rw [if_neg e]
    rcases Nat.lt_or_gt_of_ne e with h | h
    · rw [bin_over h]; simp
    · rw [bin_over (n := i) h]; simp
theorem mulc_succ (i j k : Nat) : mulc (i + 1) (j + 1) (k + 1) = mulc i (j + 1) k + mulc (i + 1) j k + mulc i j k := by
  unfold mulc
  by_cases h : k < j
  · rw [if_pos (by omega), if_pos (by omega), if_pos h, if_pos h]
  · rw [if_neg (by omega), if_neg h, if_neg h]
    have e : k + 1 - (j + 1) = k - j := by omega
    rw [e, bin_succ k i]
    by_cases h2 : k = j
    · subst h2
      rw [if_pos (by omega)]; simp
      omega
    · rw [if_neg (by omega)]
      obtain ⟨d, hd⟩ : ∃ d, k - j = d + 1 := ⟨k - j - 1, by omega⟩
      have hd2 : k - (j + 1) = d := by omega
      rw [hd, hd2, bin_succ i d]
      grind

theorem prod_bin (n i j K : Nat) (hK : i + j ≤ K) : val (K + 1) (fun k => (mulc i j k : Nat)) n = (bin n i : Int) * (bin n j : Int) := by
  induction n generalizing i j K with
  | zero =>
    rw [val_zero]
    cases i with
    | zero => rw [mulc_zero_l]; cases j <;> simp
    | succ i => rw [mulc_under (.inl (by omega))]; simp
  | succ n ih =>
    rw [val_succ, ih i j K hK]
    cases i with
    | zero =>
      cases j with
      | zero =>
        rw [show val K (fun k => ((mulc 0 0 (k + 1) : Nat) : Int)) n = 0 from sumN_zero fun k _ => by simp only [mulc_over (show 0 + 0 < k + 1 by omega)]; simp]
        simp
      | succ j =>
        obtain ⟨K, rfl⟩ : ∃ q, K = q + 1 := ⟨K - 1, by omega⟩
        rw [show val (K + 1) (fun k => ((mulc 0 (j + 1) (k + 1) : Nat) : Int)) n = val (K + 1) (fun k => ((mulc 0 j k : Nat) : Int)) n from
          val_congr n fun k _ => by rw [mulc_zero_l, mulc_zero_l]; simp, ih 0 j K (by omega), bin_succ]
        simp; omega
    | succ i =>
      cases j with
      | zero =>
        obtain ⟨K, rfl⟩ : ∃ q, K = q + 1 := ⟨K - 1, by omega⟩
        rw [show val (K + 1) (fun k => ((mulc (i + 1) 0 (k + 1) : Nat) : Int)) n = val (K + 1) (fun k => ((mulc i 0 k : Nat) : Int)) n from
          val_congr n fun k _ => by rw [mulc_zero_r, mulc_zero_r]; simp, ih i 0 K (by omega), bin_succ]
        simp; omega
      | succ j =>
        obtain ⟨K, rfl⟩ : ∃ q, K = q + 1 := ⟨K - 1, by omega⟩
        have e : val (K + 1) (fun k => ((mulc (i + 1) (j + 1) (k + 1) : Nat) : Int)) n =
            val (K + 1) (fun k => ((mulc i (j + 1) k : Nat) : Int)) n + val (K + 1) (fun k => ((mulc (i + 1) j k : Nat) : Int)) n + val (K + 1) (fun k => ((mulc i j k : Nat) : Int)) n := by
          rw [← val_add, ← val_add]
          exact val_congr n fun k _ => by rw [mulc_succ]; push_cast; rfl
        rw [e, ih i (j + 1) K (by omega), ih (i + 1) j K (by omega), ih i j K (by omega), bin_succ, bin_succ]
        push_cast
        grind

/-- The product's numbers. -/
def mulF (A B : Nat) (f g : Nat → Int) (t : Nat) : Int := sumN A (fun i => sumN B (fun j => f i * g j * (mulc i j t : Nat)))

theorem val_mul (A B : Nat) (f g : Nat → Int) (n : Nat) : val (A + B) (mulF A B f g) n = val A f n * val B g n := by
  unfold val mulF
  have e1 : ∀ k, sumN A (fun i => sumN B (fun j => f i * g j * (mulc i j k : Nat))) * (bin n k : Int) = sumN A (fun i => sumN B (fun j => f i * g j * ((mulc i j k : Nat) * (bin n k : Nat)))) := by
    intro k
    rw [← sumN_mul_r]
    refine sumN_congr fun i _ => ?_
    rw [← sumN_mul_r]
    exact sumN_congr fun j _ => by rw [Int.mul_assoc]
  rw [sumN_congr (fun k _ => e1 k), sumN_swap, ← sumN_mul_r]
  refine sumN_congr fun i hi => ?_
  rw [sumN_swap, ← sumN_mul]
  refine sumN_congr fun j hj => ?_
  rw [sumN_mul]
  have h := prod_bin n i j (A + B - 1) (by omega)
  rw [show A + B - 1 + 1 = A + B by omega] at h
  unfold val at h
  rw [h]
  grind

/-- C(a + b, k) out of C(a, ..) and C(b, ..). -/
theorem bin_split (a b k : Nat) : sumN (k + 1) (fun i => (bin a i : Int) * (bin b (k - i) : Nat)) = (bin (a + b) k : Nat) := by
  induction a generalizing k with
  | zero =>
    rw [sumN_shift, sumN_zero (fun i _ => by simp)]
    simp
  | succ a ih =>
    cases k with
    | zero => simp [sumN]
    | succ k =>
      have h1 := ih k
      have h2 := ih (k + 1)
      rw [sumN_shift] at h2
      rw [sumN_shift, show a + 1 + b = (a + b) + 1 by omega, bin_succ]
      have e : ∀ i, (bin (a + 1) (i + 1) : Int) * (bin b (k + 1 - (i + 1)) : Nat) = (bin a i : Int) * (bin b (k - i) : Nat) + (bin a (i + 1) : Int) * (bin b (k + 1 - (i + 1)) : Nat) := by
        intro i
        rw [bin_succ, show k + 1 - (i + 1) = k - i by omega]
        push_cast
        exact Int.add_mul _ _ _
      rw [sumN_congr (fun i _ => e i), sumN_add, h1]
      simp only [bin_zero] at h2 ⊢
      push_cast at h2 ⊢
      omega

/-- The r-th differences of f. -/
def dif (f : Nat → Int) : Nat → Nat → Int
  | 0, t => f t
  | r + 1, t => wrap64 (dif f r (t + 1) - dif f r t)

theorem dif_vals {f a : Nat → Int} {L m : Nat} (hL : m ≤ L) (hf : ∀ t, t < m → f t = wrap64 (val L a t)) (r : Nat) : ∀ t, r + t < m → dif f r t = wrap64 (val (L - r) (fun k => a (k + r)) t) := by
  induction r with
  | zero => intro t ht; exact hf t (by omega)
  | succ r ih =>
    intro t ht
    simp only [dif]
    rw [ih (t + 1) (by omega), ih t (by omega), wrap_sub_l, wrap_sub_r]
    obtain ⟨d, hd⟩ : ∃ d, L - r = d + 1 := ⟨L - r - 1, by omega⟩
    rw [show L - (r + 1) = d by omega, hd, val_succ]
    congr 1
    have : (fun k => (fun k => a (k + r)) (k + 1)) = fun k => a (k + (r + 1)) := by funext k; simp only; congr 1; omega
    rw [this]; omega
theorem dif_zero {f a : Nat → Int} {L m : Nat} (hL : m ≤ L) (hf : ∀ t, t < m → f t = wrap64 (val L a t)) {r : Nat} (hr : r < m) : dif f r 0 = wrap64 (a r) := by
  rw [dif_vals hL hf r 0 (by omega)]
  obtain ⟨d, hd⟩ : ∃ d, L - r = d + 1 := ⟨L - r - 1, by omega⟩
  rw [hd, val_zero]; simp

end Go.Proofs.Ytefpmjnimnmniaa
