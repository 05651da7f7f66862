/- Both programs' Trim: a copy without the zeros at the end; and whether a list is too long. -/
import Derived.Test.YtpocmldhgnphlaaLeaf
namespace Go.Proofs.Ytpocmldhgnphlaa
set_option linter.unusedSimpArgs false
set_option linter.unusedVariables false
open Go.RowKit

theorem elInt : Elem Try.prog 24 3 (.int .i64 0) 1 8 := elem_of (by kernel_rfl) (by kernel_rfl) rfl (by decide)

theorem trim_snoc (xs : List Int) (x : Int) : trim (xs ++ [x]) = if x = 0 then trim xs else xs ++ [x] := by
  unfold trim
  by_cases h : x = 0 <;> simp [h]

theorem trim_step (xs : List Int) (k : Nat) (hk : k < xs.length) (h0 : xs.getD k 0 = 0) : trim (xs.take (k + 1)) = trim (xs.take k) := by
  have e : xs.take (k + 1) = xs.take k ++ [xs.getD k 0] := by
    rw [List.take_add_one, List.getD_eq_getElem?_getD, List.getElem?_eq_getElem hk]; rfl
  rw [e, trim_snoc, if_pos h0]

theorem trim_stop (xs : List Int) (k : Nat) (hk : k < xs.length) (h0 : xs.getD k 0 ≠ 0) : trim (xs.take (k + 1)) = xs.take (k + 1) := by
  have e : xs.take (k + 1) = xs.take k ++ [xs.getD k 0] := by
    rw [List.take_add_one, List.getD_eq_getElem?_getD, List.getElem?_eq_getElem hk]; rfl
  rw [e, trim_snoc, if_neg h0]

theorem trim_getD (xs : List Int) (k : Nat) : (trim xs).getD k 0 = xs.getD k 0 := by
  suffices h : ∀ ys : List Int, (trim ys.reverse).getD k 0 = ys.reverse.getD k 0 by simpa using h xs.reverse
  intro ys
  induction ys with
  | nil => rfl
  | cons y ys ih =>
    rw [List.reverse_cons, trim_snoc]
    split
    · rename_i h0
      rw [ih]
      subst h0
      simp only [List.getD_eq_getElem?_getD]
      by_cases hk : k < ys.reverse.length
      · rw [List.getElem?_append_left hk]
      · rw [List.getElem?_append_right (by omega), List.getElem?_eq_none (by omega)]
        generalize k - ys.reverse.length = d
        cases d <;> simp
    · rfl
theorem trim_ext {xs ys : List Int} (h : ∀ k, xs.getD k 0 = ys.getD k 0) : trim xs = trim ys := by
  suffices H : ∀ n, ∀ xs ys : List Int, xs.length + ys.length ≤ n → (∀ k, xs.getD k 0 = ys.getD k 0) → trim xs = trim ys from H _ xs ys (Nat.le_refl _) h
  intro n
  induction n with
  | zero =>
    intro xs ys hl _
    rw [List.eq_nil_of_length_eq_zero (l := xs) (by omega), List.eq_nil_of_length_eq_zero (l := ys) (by omega)]
  | succ n ih =>
    intro xs ys hl h
    have key : ∀ (xs : List Int) (x : Int) (ys : List Int), (xs ++ [x]).length + ys.length ≤ n + 1 → ys.length ≤ xs.length → (∀ k, (xs ++ [x]).getD k 0 = ys.getD k 0) → trim (xs ++ [x]) = trim ys := by
      intro xs x ys hl hlen h
      have hx : x = 0 := by
        have := h xs.length
        simp only [List.getD_eq_getElem?_getD] at this
        rw [List.getElem?_append_right (Nat.le_refl _), List.getElem?_eq_none (l := ys) hlen] at this
        simpa using this
      rw [trim_snoc, if_pos hx]
      refine ih xs ys (by simp at hl; omega) fun k => ?_
      rw [← h k]
      subst hx
      simp only [List.getD_eq_getElem?_getD]
      by_cases hk : k < xs.length
      · rw [List.getElem?_append_left hk]
      · rw [List.getElem?_append_right (by omega), List.getElem?_eq_none (by omega)]
        generalize k - xs.length = d
        cases d <;> simp
    rcases Nat.lt_trichotomy xs.length ys.length with hlt | heq | hgt
    · obtain ⟨zs, z, rfl⟩ : ∃ zs z, ys = zs ++ [z] := ⟨ys.dropLast, ys.getLast (by intro e; simp [e] at hlt), (List.dropLast_concat_getLast _).symm⟩
      exact (key zs z xs (by omega) (by simp at hlt; omega) (fun k => (h k).symm)).symm
    · rw [list_eq heq fun j _ => h j]
    · obtain ⟨zs, z, rfl⟩ : ∃ zs z, xs = zs ++ [z] := ⟨xs.dropLast, xs.getLast (by intro e; simp [e] at hgt), (List.dropLast_concat_getLast _).symm⟩
      exact key zs z ys hl (by simp at hgt; omega) h
theorem trim_trim (xs : List Int) : trim (trim xs) = trim xs := trim_ext (trim_getD xs)
theorem getD_over {xs : List Int} {k : Nat} (h : xs.length ≤ k) : xs.getD k 0 = 0 := by
  rw [List.getD_eq_getElem?_getD, List.getElem?_eq_none h]; rfl
theorem getD_range (n : Nat) (f : Nat → Int) (k : Nat) : ((List.range n).map f).getD k 0 = if k < n then f k else 0 := by
  rw [List.getD_eq_getElem?_getD]
  by_cases h : k < n <;> simp [h]
theorem trim_nil : trim [] = [] := rfl
theorem trim_mem {xs : List Int} {x : Int} (h : x ∈ trim xs) : x ∈ xs := by
  unfold trim at h
  rw [List.mem_reverse] at h
  exact List.mem_reverse.1 ((List.dropWhile_sublist _).subset h)
theorem trim_le (xs : List Int) : (trim xs).length ≤ xs.length := by
  unfold trim
  rw [List.length_reverse]
  exact Nat.le_trans (List.dropWhile_sublist _).length_le (by simp)

set_option maxHeartbeats 800000 in
theorem chainTrim {w : World} {v : Value} {xs : List Int} (hv : Ints w v xs) :
    Calls Try.prog 23 #[v] w fun e w' => ∃ u, e = .returned u ∧ w'.ownsRow w.heap.size 3 1 u (trim xs).length ((trim xs).map (.int .i64)) ∧ Below w.heap.size w w' := by
  have hv0 := hv
  have hl := hv.le
  obtain ⟨a, c, b, o, rfl, hc, hm, ha, hx⟩ := hv.parts
  have HV := Lib.hid hv
  clear hv hv0
  generalize H1 : xs.length = n at *
  have G1 := Lib.hid H1
  clear H1
  go_enter Try.func23, Try.ntmps23
  go_wp2
  go_loopw [3] (fun i wr => ∃ k : Nat, k ≤ n ∧ i = .int .i64 k ∧ trim (xs.take k) = trim xs ∧ wr = w) (fun i _ => (intOf i).toNat)
  case atStart => exact ⟨n, by omega, rfl, by rw [List.take_of_length_le (by rw [G1.out]; omega)], rfl⟩
  case round =>
    obtain ⟨k, hk, rfl, ht, rfl⟩ := hrel
    have HT := Lib.hid ht
    clear ht
    by_cases h0 : 0 < k
    · obtain ⟨q, rfl⟩ : ∃ q, k = q + 1 := ⟨k - 1, by omega⟩
      obtain ⟨rfl, -⟩ := ha (by omega)
      have hq := hx q (by omega)
      clear hx ha
      by_cases hz : xs.getD q 0 = 0
      · have HZ := Lib.hid hz
        rw [hz] at hq
        clear hz
        go_wp2
        go_roundw
        case rel => exact ⟨q, by omega, by go_num, by rw [← HT.out, trim_step xs q (by rw [G1.out]; omega) HZ.out], by trivial⟩
        case measure => simp [intOf]
      · have HZ := Lib.hid hz
        have hz1 : (xs.getD q 0 == 0) = false := by simpa using hz
        generalize xs.getD q 0 = p at hq hz hz1
        go_wp2_with (at_builtin; refine wpList_append_ints rfl _ _ 24 3 rfl elInt wr.heap.size (xs := []) (ys := xs.take (q + 1)) rfl rfl (World.ownsRow_nil _ _ _ _) ?c1 ?c2 (Nat.le_refl _) ?_)
        case c1 => exact HV.out.take (by rw [G1.out]; omega)
        case c2 => have := List.length_take_le (q + 1) xs; simp; omega
        intro v' w1 hown hg
        go_wp2
        go_ret
        have e : trim xs = xs.take (q + 1) := by rw [← HT.out, trim_stop xs q (by rw [G1.out]; omega) HZ.out]
        exact ⟨_, rfl, by rw [e]; simpa using hown, (Below.refl _ _).grown hg (Nat.le_refl _) (by simp [Value.ownBlock])⟩
    · obtain rfl : k = 0 := by omega
      go_wp2_with (at_builtin; refine wpList_append_ints rfl _ _ 24 3 rfl elInt wr.heap.size (xs := []) (ys := xs.take 0) rfl rfl (World.ownsRow_nil _ _ _ _) ?c1 ?c2 (Nat.le_refl _) ?_)
      case c1 => exact HV.out.take (by omega)
      case c2 => simp
      intro v' w1 hown hg
      go_wp2
      go_ret
      have e : trim xs = [] := by rw [← HT.out]; rfl
      exact ⟨_, rfl, by rw [e]; simpa using hown, (Below.refl _ _).grown hg (Nat.le_refl _) (by simp [Value.ownBlock])⟩


theorem trim_in {xs : List Int} (h : ∀ x ∈ xs, In64 x) : ∀ x ∈ trim xs, In64 x := fun x hx => h x (trim_mem hx)

theorem chainTrim' {w : World} {v : Value} {xs : List Int} (hv : Ints w v xs) :
    Calls Try.prog 23 #[v] w fun e w' => ∃ a c, e = .returned (.slice a (trim xs).length c) ∧ Ints w' (.slice a (trim xs).length c) (trim xs) ∧ (∀ ad, a = some ad → w.heap.size ≤ ad.block) ∧ Below w.heap.size w w' := by
  refine (chainTrim hv).mono fun e w' ⟨u, he, hown, hb⟩ => ?_
  have hi : Ints w' u (trim xs) := Ints.of_own hown (Nat.le_trans (trim_le xs) hv.le) (trim_in hv.2)
  obtain ⟨a, c, rfl⟩ := hi.form
  exact ⟨a, c, he, hi, fun ad h => by subst h; exact (hown.lt ad.block rfl).1, hb⟩

set_option maxHeartbeats 800000 in
theorem refTrim {w : World} {v : Value} {xs : List Int} (hv : Ints w v xs) :
    Calls Try.prog 19 #[v] w fun e w' => ∃ u, e = .returned u ∧ Ints w' u (trim xs) ∧ Below w.heap.size w w' := by
  have hl := hv.le
  have HV := Lib.hid hv
  clear hv
  go_enter Try.func19, Try.ntmps19
  go_wp2_with (at_builtin; refine wpList_append_ints rfl _ _ 24 3 rfl elInt w.heap.size (xs := []) (ys := xs) rfl rfl (World.ownsRow_made _ _ 0 (Nat.le_refl _) (by decide) rfl) ?c1 ?c2 ?c3 ?_)
  case c1 => exact HV.out.below ((Below.refl _ _).alloc (Nat.le_refl _) _)
  case c2 => simp; omega
  case c3 => simp
  intro v1 w1 hown hg
  have hb : Below w.heap.size w w1 := ((Below.refl _ _).alloc (Nat.le_refl _) _).grown hg (by simp) (by simp [Value.ownBlock])
  have HI : Ints w1 v1 xs := Ints.of_own hown hl HV.out.2
  have HB := Lib.hid hb
  clear hown hg hb HV
  obtain ⟨a, c, b, o, rfl, hc, hm, ha, hx⟩ := HI.parts
  have HJ := Lib.hid HI
  clear HI
  generalize H1 : xs.length = n at *
  have G1 := Lib.hid H1
  clear H1
  go_wp2
  go_loopw [3] (fun v wr => ∃ k : Nat, k ≤ n ∧ v = .slice a k c ∧ trim (xs.take k) = trim xs ∧ wr = w1) (fun v _ => match v with | .slice _ k _ => k | _ => 0)
  case atStart => exact ⟨n, by omega, rfl, by rw [List.take_of_length_le (by rw [G1.out]; omega)], rfl⟩
  case round =>
    obtain ⟨k, hk, rfl, ht, rfl⟩ := hrel
    have HT := Lib.hid ht
    clear ht
    by_cases h0 : 0 < k
    · obtain ⟨q, rfl⟩ : ∃ q, k = q + 1 := ⟨k - 1, by omega⟩
      obtain ⟨rfl, -⟩ := ha (by omega)
      have hq := hx q (by omega)
      clear hx ha
      by_cases hz : xs.getD q 0 = 0
      · have HZ := Lib.hid hz
        rw [hz] at hq
        clear hz
        go_wp2
        go_roundw
        case rel => exact ⟨q, by omega, by simp, by rw [← HT.out, trim_step xs q (by rw [G1.out]; omega) HZ.out], by trivial⟩
        case measure => simp
      · have HZ := Lib.hid hz
        have hz1 : (xs.getD q 0 == 0) = false := by simpa using hz
        generalize xs.getD q 0 = p at hq hz hz1
        go_wp2
        go_ret
        have e : trim xs = xs.take (q + 1) := by rw [← HT.out, trim_stop xs q (by rw [G1.out]; omega) HZ.out]
        exact ⟨_, rfl, by rw [e]; exact HJ.out.take (by rw [G1.out]; omega), HB.out⟩
    · obtain rfl : k = 0 := by omega
      go_wp2
      go_ret
      have e : trim xs = xs.take 0 := by rw [← HT.out]; rfl
      exact ⟨_, rfl, by rw [e]; exact HJ.out.take (by omega), HB.out⟩
def isLong (xs : List Int) : Bool := decide (16 < (trim xs).length)

set_option maxHeartbeats 400000 in
theorem refLong {w : World} {v : Value} {xs : List Int} (hv : Ints w v xs) :
    Calls Try.prog 11 #[v] w fun e w' => e = .returned (.bool (isLong xs)) ∧ Below w.heap.size w w' := by
  have hl := trim_le xs
  have hm := hv.le
  go_enter Try.func11, Try.ntmps11
  go_wp2_with fail
  refine (refTrim hv).mono ?_
  rintro e w' ⟨u, rfl, hi, hb⟩
  obtain ⟨a, c, rfl⟩ := hi.form
  have HB := Lib.hid hb
  clear hb hi hv
  go_wp2
  go_ret
  exact ⟨ret_bool (by unfold isLong; simp; omega), HB.out⟩

set_option maxHeartbeats 800000 in
theorem chainLong {w : World} {v : Value} {xss : List (List Int)} (hv : Lists w v xss) :
    Calls Try.prog 27 #[v] w fun e w' => e = .returned (.bool (xss.any isLong)) ∧ Below w.heap.size w w' := by
  obtain ⟨vs, a, c, b, o, rfl, hc, hm, hn, ha, hx, hi⟩ := hv.parts
  have HI := Lib.hid hi
  have HX := Lib.hid hx
  clear hv hi hx
  generalize H1 : xss.length = n at *
  have G1 := Lib.hid H1
  clear H1
  go_enter Try.func27, Try.ntmps27
  go_wp2
  go_loopw [7] (fun i wr => ∃ k : Nat, k ≤ n ∧ i = .int .i64 k ∧ (xss.take k).any isLong = false ∧ Below w.heap.size w wr) (fun i _ => n - (intOf i).toNat)
  case atStart => exact ⟨0, by omega, rfl, by simp, Below.refl _ _⟩
  case round =>
    obtain ⟨k, hk, rfl, hno, hb⟩ := hrel
    have HN := Lib.hid hno
    clear hno
    by_cases hlt : k < n
    · obtain ⟨rfl, hbw⟩ := ha (by omega)
      have hcell : wr.cell? ⟨b, o + k, none⟩ = some (vs.getD k undef) := (hb.cell hbw).trans (HX.out k hlt)
      have hik : Ints wr (vs.getD k undef) (xss.getD k []) := (HI.out k hlt).below hb
      have hle := hik.le
      have htl := trim_le (xss.getD k [])
      have HB := Lib.hid hb
      have HT := Lib.hid (show xss.take (k + 1) = xss.take k ++ [xss.getD k []] by
        rw [List.take_add_one, List.getD_eq_getElem?_getD, List.getElem?_eq_getElem (by rw [G1.out]; omega)]; rfl)
      generalize xss.getD k [] = xs at *
      generalize vs.getD k undef = u at *
      have HK := Lib.hid hik
      clear hb hik ha
      go_wp2_with fail
      refine (chainTrim' HK.out).mono ?_
      rintro e w' ⟨a', c', rfl, hi', -, hb'⟩
      have HB' := Lib.hid (HB.out.trans (hb'.mono HB.out.size))
      clear hi' hb'
      by_cases hlong : 16 < (trim xs).length
      · go_wp2
        go_ret
        refine ⟨ret_bool ?_, HB'.out⟩
        rw [eq_comm, List.any_eq_true]
        refine ⟨xs, List.mem_of_mem_take (i := k + 1) ?_, by unfold isLong; simpa using hlong⟩
        rw [HT.out]; simp
      · go_wp2
        go_roundw
        case rel => exact ⟨k + 1, by omega, by go_num, by rw [HT.out, List.any_append, HN.out]; simp [isLong]; omega, HB'.out⟩
        case measure => simp [intOf]; omega
    · obtain rfl : k = n := by omega
      go_wp2
      go_ret
      exact ⟨ret_bool (by rw [← HN.out, List.take_of_length_le (by rw [G1.out]; omega)]), hb⟩
end Go.Proofs.Ytpocmldhgnphlaa
