/- What determines a chain, and the values of sums and products of chains. -/
import Derived.Test.YtpocmldhgnphlaaLawBack
import Derived.Test.YtpocmldhgnphlaaRefMul
namespace Go.Proofs.Ytpocmldhgnphlaa
set_option linter.unusedSimpArgs false
set_option linter.unusedVariables false
open Go.RowKit

def Chain64 (xs : List Int) : Prop := ∀ x ∈ xs, In64 x

theorem valL_more (xs : List Int) (n : Nat) {m : Nat} (h : xs.length ≤ m) : val m (fn xs) n = valL xs n := val_more (fn xs) n h (fun k hk => getD_over hk)

/-- So many values determine a chain. -/
theorem chain_ext {xs ys : List Int} (hx : Chain64 xs) (hy : Chain64 ys) (h : ∀ n, wrap64 (valL xs n) = wrap64 (valL ys n)) : trim xs = trim ys := by
  apply trim_ext
  intro k
  have e1 := dif_zero (f := fun t => wrap64 (valL xs t)) (a := fn xs) (L := max (max xs.length ys.length) (k + 1)) (m := k + 1) (by omega) (fun t _ => by rw [valL_more xs t (by omega)]) (r := k) (by omega)
  have e2 := dif_zero (f := fun t => wrap64 (valL xs t)) (a := fn ys) (L := max (max xs.length ys.length) (k + 1)) (m := k + 1) (by omega) (fun t _ => by rw [valL_more ys t (by omega), h t]) (r := k) (by omega)
  rw [wrap_in (fn_In hx k)] at e1
  rw [wrap_in (fn_In hy k)] at e2
  exact e1.symm.trans e2

theorem valL_trim (xs : List Int) (n : Nat) : valL (trim xs) n = valL xs n := val_trim xs n
theorem trim_64 {xs : List Int} (h : Chain64 xs) : Chain64 (trim xs) := trim_in h
theorem trim_len {xs : List Int} {n : Nat} (h : ∀ k, n ≤ k → xs.getD k 0 = 0) : (trim xs).length ≤ n := by
  have e : trim xs = trim (xs.take n) := trim_ext fun k => by
    by_cases hk : k < n
    · simp [List.getD_eq_getElem?_getD, List.getElem?_take, hk]
    · rw [h k (by omega), getD_over (by rw [List.length_take]; omega)]
  rw [e]
  exact Nat.le_trans (trim_le _) (by rw [List.length_take]; omega)

theorem valL_range (m : Nat) (f : Nat → Int) (n : Nat) : wrap64 (valL ((List.range m).map fun t => wrap64 (f t)) n) = wrap64 (val m f n) := by
  unfold valL
  simp only [List.length_map, List.length_range]
  exact val_wrap n fun k hk => by
    show wrap64 (((List.range m).map fun t => wrap64 (f t)).getD k 0) = _
    rw [getD_range, if_pos hk, wrap_wrap]

theorem mulOut_64 (xs ys : List Int) : Chain64 (mulOut xs ys) := by
  intro x hx
  obtain ⟨j, -, rfl⟩ := List.mem_map.1 hx
  exact wrap_In _
theorem mulOut_val (xs ys : List Int) (n : Nat) : wrap64 (valL (mulOut xs ys) n) = wrap64 (valL xs n * valL ys n) := by
  unfold mulOut
  rw [valL_range, val_mul]
  have e1 : val (trim xs).length (fn xs) n = valL xs n := by rw [← val_trim]; exact val_congr n fun k _ => (fn_trim xs k).symm
  have e2 : val (trim ys).length (fn ys) n = valL ys n := by rw [← val_trim]; exact val_congr n fun k _ => (fn_trim ys k).symm
  rw [e1, e2]
theorem mulOut_len (xs ys : List Int) : (mulOut xs ys).length = (trim xs).length + (trim ys).length := by simp [mulOut]
theorem mulE_short {xs ys : List Int} (h : (trim xs).length + (trim ys).length ≤ 16) : mulE xs ys = false := by
  have h1 : [xs, ys].any isLong = false := by simp [isLong]; omega
  rw [mulE_of h1]
  have := trim_le (mulOut xs ys)
  rw [mulOut_len] at this
  simp [isLong]; omega

theorem addL_64 (xss : List (List Int)) : Chain64 (addL xss) := by
  refine trim_64 fun x hx => ?_
  obtain ⟨j, -, rfl⟩ := List.mem_map.1 hx
  exact wrap_In _
theorem fn_short {xs : List Int} (h : isLong xs = false) {k : Nat} (hk : 16 ≤ k) : fn xs k = 0 := by
  rw [← fn_trim]
  exact getD_over (by have := of_decide_eq_false h; omega)
theorem valL_16 {xs : List Int} (h : isLong xs = false) (n : Nat) : val 16 (fn xs) n = valL xs n := by
  rw [← val_trim, ← val_more (fn (trim xs)) n (show (trim xs).length ≤ 16 by have := of_decide_eq_false h; omega) (fun k hk => getD_over hk)]
  exact val_congr n fun k _ => (fn_trim xs k).symm
theorem addL_val {xss : List (List Int)} (h : xss.any isLong = false) (n : Nat) : wrap64 (valL (addL xss) n) = wrap64 (sumN xss.length fun j => valL (xss.getD j []) n) := by
  unfold addL
  rw [valL_trim, valL_range]
  congr 1
  unfold val colS
  have e : ∀ k, sumN xss.length (fun j => fn (xss.getD j []) k) * (bin n k : Int) = sumN xss.length (fun j => fn (xss.getD j []) k * (bin n k : Nat)) := fun k => by rw [sumN_mul_r]
  rw [sumN_congr (fun k _ => e k), sumN_swap]
  exact sumN_congr fun j _ => valL_16 (any_getD h j) n
theorem addL_len {xss : List (List Int)} {n : Nat} (h : ∀ j, j < xss.length → (xss.getD j []).length ≤ n) : (addL xss).length ≤ n := by
  unfold addL
  apply trim_len
  intro k hk
  rw [getD_range]
  split
  · unfold colS
    have e : sumN xss.length (fun j => fn (xss.getD j []) k) = 0 := sumN_zero fun j hj => getD_over (by have := h j hj; omega)
    rw [e, wrap_zero]
  · rfl
theorem short_of_len {xs : List Int} (h : xs.length ≤ 16) : isLong xs = false := by
  have := trim_le xs
  simp [isLong]; omega

theorem wrap_mul_c {a b c d : Int} (h1 : wrap64 a = wrap64 b) (h2 : wrap64 c = wrap64 d) : wrap64 (a * c) = wrap64 (b * d) := by
  rw [← wrap_mul_l, ← wrap_mul_r, h1, h2, wrap_mul_l, wrap_mul_r]
theorem wrap_add_c {a b c d : Int} (h1 : wrap64 a = wrap64 b) (h2 : wrap64 c = wrap64 d) : wrap64 (a + c) = wrap64 (b + d) := by
  rw [← wrap_add_l, ← wrap_add_r, h1, h2, wrap_add_l, wrap_add_r]

section
variable {a b c : List Int} (ha : a.length ≤ 8) (hb : b.length ≤ 8) (hc : c.length ≤ 8) (ka : Chain64 a) (kb : Chain64 b) (kc : Chain64 c)

theorem any2 {xs ys : List Int} (h1 : xs.length ≤ 16) (h2 : ys.length ≤ 16) : [xs, ys].any isLong = false := by simp [short_of_len h1, short_of_len h2]
theorem any3 {xs ys zs : List Int} (h1 : xs.length ≤ 16) (h2 : ys.length ≤ 16) (h3 : zs.length ≤ 16) : [xs, ys, zs].any isLong = false := by simp [short_of_len h1, short_of_len h2, short_of_len h3]
theorem val2 {xs ys : List Int} (h1 : xs.length ≤ 16) (h2 : ys.length ≤ 16) (n : Nat) : wrap64 (valL (addL [xs, ys]) n) = wrap64 (valL xs n + valL ys n) := by
  rw [addL_val (any2 h1 h2)]; simp [sumN]
theorem val3 {xs ys zs : List Int} (h1 : xs.length ≤ 16) (h2 : ys.length ≤ 16) (h3 : zs.length ≤ 16) (n : Nat) : wrap64 (valL (addL [xs, ys, zs]) n) = wrap64 (valL xs n + valL ys n + valL zs n) := by
  rw [addL_val (any3 h1 h2 h3)]; simp [sumN]
theorem len2 {xs ys : List Int} {m : Nat} (h1 : xs.length ≤ m) (h2 : ys.length ≤ m) : (addL [xs, ys]).length ≤ m := addL_len fun j hj => by
  match j, hj with
  | 0, _ => exact h1
  | 1, _ => exact h2
  | j + 2, hj => simp at hj; omega
theorem len3 {xs ys zs : List Int} {m : Nat} (h1 : xs.length ≤ m) (h2 : ys.length ≤ m) (h3 : zs.length ≤ m) : (addL [xs, ys, zs]).length ≤ m := addL_len fun j hj => by
  match j, hj with
  | 0, _ => exact h1
  | 1, _ => exact h2
  | 2, _ => exact h3
  | j + 3, hj => simp at hj; omega
theorem addL_trim (xss : List (List Int)) : trim (addL xss) = addL xss := trim_trim _

theorem mul_comm_chain : trim (mulOut a b) = trim (mulOut b a) :=
  chain_ext (mulOut_64 _ _) (mulOut_64 _ _) fun n => by rw [mulOut_val, mulOut_val, Int.mul_comm]

include hb hc in
theorem mul_add_chain (h1 : (trim (mulOut a b)).length ≤ 16) (h2 : (trim (mulOut a c)).length ≤ 16) : trim (mulOut a (addL [b, c])) = addL [trim (mulOut a b), trim (mulOut a c)] := by
  rw [← addL_trim [trim (mulOut a b), trim (mulOut a c)]]
  refine chain_ext (mulOut_64 _ _) (addL_64 _) fun n => ?_
  rw [mulOut_val, val2 h1 h2, valL_trim, valL_trim, wrap_mul_c (b := valL a n) rfl (val2 (by omega) (by omega) n), wrap_add_c (mulOut_val a b n) (mulOut_val a c n)]
  congr 1; grind

include ka in
theorem mul_one_chain : trim (mulOut a [1, 0]) = trim a :=
  chain_ext (mulOut_64 _ _) ka fun n => by
    rw [mulOut_val]
    have : valL [1, 0] n = 1 := by simp [valL, val, sumN, fn]
    rw [this, Int.mul_one]

include ha hb hc in
theorem add_swap_chain : addL [a, b, c] = addL [addL [c, addL [b, c], a], trim (mulOut [-1] c)] := by
  have l1 : (addL [b, c]).length ≤ 8 := len2 hb hc
  have l2 : (addL [c, addL [b, c], a]).length ≤ 8 := len3 hc l1 ha
  have l3 : (trim (mulOut [-1] c)).length ≤ 16 := by
    have h1 := trim_le (mulOut [-1] c)
    rw [mulOut_len] at h1
    have h2 := trim_le c
    have h3 := trim_le [-1]
    simp at h3
    omega
  rw [← addL_trim [a, b, c], ← addL_trim [addL [c, addL [b, c], a], trim (mulOut [-1] c)]]
  refine chain_ext (addL_64 _) (addL_64 _) fun n => ?_
  rw [val3 (by omega) (by omega) (by omega), val2 (by omega) l3, valL_trim, wrap_add_c (val3 (by omega) (by omega) (by omega) n) (mulOut_val [-1] c n),
    wrap_add_c (wrap_add_c (wrap_add_c (a := valL c n) rfl (val2 (by omega) (by omega) n)) (c := valL a n) rfl) (c := valL [-1] n * valL c n) rfl]
  have : valL [-1] n = -1 := by simp [valL, val, sumN, fn]
  rw [this]
  congr 1; omega
end

end Go.Proofs.Ytpocmldhgnphlaa
