/- ChainLaws: the walk. -/
import Derived.Test.YtpocmldhgnphlaaNext
namespace Go.Proofs.Ytpocmldhgnphlaa
set_option linter.unusedSimpArgs false
set_option linter.unusedVariables false
open Go.RowKit

theorem sumsOk {w : World} {v : Value} {xs : List Int} {s : Int} (h : sumE s xs = false) (hs : In64 s) (hlen : xs.length ≤ 1000000) (hv : Ints w v xs) :
    Calls Try.prog 17 #[.int .i64 s, v] w fun e w' => ∃ a n c, e = .returned (.tuple #[.slice a n c, .int .i64 0]) ∧ Ints w' (.slice a n c) (trim (s :: trim xs)) ∧ Below w.heap.size w w' := by
  refine (chainSums hs hlen hv).mono fun e w' ⟨a, n, c, he, hi, hb⟩ => ⟨a, n, c, ?_, ?_, hb⟩
  · rw [he, h]; rfl
  · rw [h] at hi; exact hi

theorem at_of {xs : List Int} (h : isLong xs = false) {n : Int} {N : Nat} (hn : n = N) : atV xs n = wrap64 (valL xs N) := by subst hn; exact atV_short h N
section
variable {a b : List Int} (la : a.length ≤ 8) (lb : b.length ≤ 8) {n n1 : Int} {N : Nat} (hn : n = N) (h1 : n1 = (N + 1 : Nat))
include la lb hn in
theorem law_add : atV (addL [a, b]) n = wrap64 (atV a n + atV b n) := by
  rw [at_of (short_of_len (len2 (m := 16) (by omega) (by omega))) hn, at_of (short_of_len (by omega)) hn, at_of (short_of_len (xs := b) (by omega)) hn, val2 (by omega) (by omega), wrap_add_l, wrap_add_r]
include la lb hn in
theorem law_mul : atV (trim (mulOut a b)) n = wrap64 (atV a n * atV b n) := by
  have := mulT_len a b
  rw [at_of (short_of_len (by omega)) hn, at_of (short_of_len (by omega)) hn, at_of (short_of_len (xs := b) (by omega)) hn, valL_trim, mulOut_val, wrap_mul_l, wrap_mul_r]
include la hn h1 in
theorem law_next : atV (nextR a) n = atV a n1 := by
  have hs := short_of_len (xs := a) (by omega)
  have e : nextR a = nextL a := by unfold nextR; rw [hs]; rfl
  have h2 := nextL_len a
  have h3 := trim_le a
  rw [e, at_of (short_of_len (by omega)) hn, at_of hs h1, nextL_val]
theorem sums_val (s : Int) (xs : List Int) (t : Nat) : valL (trim (s :: trim xs)) t = val ((trim xs).length + 1) (fn (s :: trim xs)) t := by
  rw [valL_trim]; rfl
theorem sums_len {s : Int} {xs : List Int} {m : Nat} (h : xs.length ≤ m) : (trim (s :: trim xs)).length ≤ m + 1 := by
  have h1 := trim_le (s :: trim xs)
  have h2 := trim_le xs
  simp at h1; omega
include la in
theorem law_start {s : Int} (hs : In64 s) : atV (trim (s :: trim a)) 0 = s := by
  rw [at_of (n := 0) (N := 0) (short_of_len (Nat.le_trans (sums_len la) (by omega))) rfl, sums_val, val_zero]
  exact wrap_in hs
include la hn h1 in
theorem law_sum {s : Int} : atV (trim (s :: trim a)) n1 = wrap64 (atV (trim (s :: trim a)) n + atV a n) := by
  have hl : isLong (trim (s :: trim a)) = false := short_of_len (Nat.le_trans (sums_len la) (by omega))
  rw [at_of hl h1, at_of hl hn, at_of (short_of_len (by omega)) hn, sums_val, sums_val, val_succ, wrap_add_l, wrap_add_r, ← valL_trim a]
  rfl
end

set_option maxRecDepth 100000 in
set_option maxHeartbeats 6400000 in
theorem walkLaws {w : World} {u v : Value} {xs ys : List Int} {s n : Int} (hu : Ints w u xs) (hv : Ints w v ys) (hs : In64 s) (hn : In64 n) :
    Calls Try.prog 10 #[u, v, .int .i64 s, .int .i64 n] w fun e w' => e = .returned (.bool true) ∧ Below w.heap.size w w' := by
  have HV0 := Lib.hid hv
  have HS64 := Lib.hid hs
  obtain ⟨hn1, hn2⟩ := hn
  clear hs
  go_enter Try.func10, Try.ntmps10
  go_wp2_with fail
  refine (cut 8 (by omega) hu).mono ?_
  rintro e w1 ⟨u1, rfl, hu1, rfl⟩
  go_wp2_with fail
  refine (cut 8 (by omega) HV0.out).mono ?_
  rintro e w1 ⟨v1, rfl, hv1, rfl⟩
  have HA := Lib.hid hu1
  have HD := Lib.hid hv1
  have HLA := Lib.hid (List.length_take_le 8 xs)
  have HLB := Lib.hid (List.length_take_le 8 ys)
  have HB1 := Lib.hid (Below.refl w1.heap.size w1)
  clear hu hv hu1 hv1 HV0
  generalize xs.take 8 = a at *
  generalize ys.take 8 = b at *
  obtain ⟨aa, ca, rfl⟩ := HA.out.form
  obtain ⟨ab, cb, rfl⟩ := HD.out.form
  have la := HLA.out
  have lb := HLB.out
  have ta := trim_le a
  have tb := trim_le b
  have M1 := Lib.hid (show (trim a).length + (trim b).length ≤ 16 by omega)
  have A1 := Lib.hid (any2 (xs := a) (ys := b) (by omega) (by omega))
  have S1 := Lib.hid (show sumE s a = false by
    have h1 := short_of_len (xs := a) (by omega)
    have h2 := short_of_len (xs := s :: trim a) (by simp; omega)
    simp [sumE, h1, h2])
  have SL := Lib.hid (fun (w : World) (v : Value) (h : Ints w v a) => sumsOk S1.out HS64.out (by omega) h)
  have F1 := Lib.hid (fun (n : Int) (N : Nat) (h : n = N) => law_add HLA.out HLB.out h)
  have F2 := Lib.hid (fun (n : Int) (N : Nat) (h : n = N) => law_mul HLA.out HLB.out h)
  have F3 := Lib.hid (fun (n n1 : Int) (N : Nat) (h : n = N) (h1 : n1 = (N + 1 : Nat)) => law_next HLA.out h h1)
  have F4 := Lib.hid (law_start HLA.out HS64.out)
  have F5 := Lib.hid (fun (n n1 : Int) (N : Nat) (h : n = N) (h1 : n1 = (N + 1 : Nat)) => law_sum HLA.out h h1 (s := s))
  clear la lb ta tb HLA HLB
  generalize a.length = na at *
  generalize b.length = nb at *
  have hcase : (n < 0 ∨ (0 ≤ n ∧ (n == 9223372036854775807) = true)) ∨ (∃ N : Nat, n = N ∧ N < 9223372036854775807 ∧ ((N : Int) == 9223372036854775807) = false) := by
    by_cases h : n < 0
    · exact .inl (.inl h)
    · by_cases h2 : n = 9223372036854775807
      · exact .inl (.inr ⟨by omega, by simpa using h2⟩)
      · exact .inr ⟨n.toNat, by omega, by omega, by simp; omega⟩
  rcases hcase with hc | ⟨N, rfl, hN, hNe⟩
  · rcases hc with hc | ⟨hc, hNe⟩
    all_goals
      have Q1 := Lib.hid (F1.out (5) (5) rfl)
      have Q2 := Lib.hid (F2.out (5) (5) rfl)
      have Q3 := Lib.hid (F3.out (5) (6) (5) rfl rfl)
      have Q4 := Lib.hid F4.out
      have Q5 := Lib.hid (F5.out (5) (6) (5) rfl rfl)
      go_wp2_with fail
      refine (addOk A1.out (lists_two HA.out HD.out)).mono ?_
      rintro e w2 ⟨a2, n2, c2, rfl, hi2, hb2⟩
      replace hb2 := below_alloc hb2
      have HB2 := Lib.hid (HB1.out.trans (hb2.mono HB1.out.size))
      have HA2 := Lib.hid (HA.out.below hb2)
      have HD2 := Lib.hid (HD.out.below hb2)
      have HS2 := Lib.hid hi2
      clear hb2 hi2
      go_wp2_with fail
      refine (mulOk M1.out HA2.out HD2.out).mono ?_
      rintro e w3 ⟨a3, n3, c3, rfl, hi3, hb3⟩
      have HB3 := Lib.hid (HB2.out.trans (hb3.mono HB2.out.size))
      have HA3 := Lib.hid (HA2.out.below hb3)
      have HD3 := Lib.hid (HD2.out.below hb3)
      have HS3 := Lib.hid (HS2.out.below hb3)
      have HP3 := Lib.hid hi3
      clear hb3 hi3
      go_wp2_with fail
      refine (SL.out _ _ HA3.out).mono ?_
      rintro e w4 ⟨a4, n4, c4, rfl, hi4, hb4⟩
      have HB4 := Lib.hid (HB3.out.trans (hb4.mono HB3.out.size))
      have HA4 := Lib.hid (HA3.out.below hb4)
      have HD4 := Lib.hid (HD3.out.below hb4)
      have HS4 := Lib.hid (HS3.out.below hb4)
      have HP4 := Lib.hid (HP3.out.below hb4)
      have HT4 := Lib.hid hi4
      clear hb4 hi4
      go_wp2_with fail
      refine (awake).mono ?_
      rintro e w5 ⟨rfl, hb5⟩
      have HB5 := Lib.hid (HB4.out.trans (hb5.mono HB4.out.size))
      have HA5 := Lib.hid (HA4.out.below hb5)
      have HD5 := Lib.hid (HD4.out.below hb5)
      have HS5 := Lib.hid (HS4.out.below hb5)
      have HP5 := Lib.hid (HP4.out.below hb5)
      have HT5 := Lib.hid (HT4.out.below hb5)
      clear hb5
      go_wp2_with fail
      refine (chainAt (5) (by unfold In64; omega) HA5.out).mono ?_
      rintro e w6 ⟨rfl, hb6⟩
      have HB6 := Lib.hid (HB5.out.trans (hb6.mono HB5.out.size))
      have HA6 := Lib.hid (HA5.out.below hb6)
      have HD6 := Lib.hid (HD5.out.below hb6)
      have HS6 := Lib.hid (HS5.out.below hb6)
      have HP6 := Lib.hid (HP5.out.below hb6)
      have HT6 := Lib.hid (HT5.out.below hb6)
      clear hb6
      go_wp2_with fail
      refine (chainAt (5) (by unfold In64; omega) HD6.out).mono ?_
      rintro e w7 ⟨rfl, hb7⟩
      have HB7 := Lib.hid (HB6.out.trans (hb7.mono HB6.out.size))
      have HA7 := Lib.hid (HA6.out.below hb7)
      have HS7 := Lib.hid (HS6.out.below hb7)
      have HP7 := Lib.hid (HP6.out.below hb7)
      have HT7 := Lib.hid (HT6.out.below hb7)
      clear hb7
      go_wp2_with fail
      refine (chainAt (5) (by unfold In64; omega) HS7.out).mono ?_
      rintro e w8 ⟨rfl, hb8⟩
      have HB8 := Lib.hid (HB7.out.trans (hb8.mono HB7.out.size))
      have HA8 := Lib.hid (HA7.out.below hb8)
      have HP8 := Lib.hid (HP7.out.below hb8)
      have HT8 := Lib.hid (HT7.out.below hb8)
      clear hb8
      rw [Q1.out]
      go_wp2_with fail
      refine (chainAt (5) (by unfold In64; omega) HP8.out).mono ?_
      rintro e w9 ⟨rfl, hb9⟩
      have HB9 := Lib.hid (HB8.out.trans (hb9.mono HB8.out.size))
      have HA9 := Lib.hid (HA8.out.below hb9)
      have HT9 := Lib.hid (HT8.out.below hb9)
      clear hb9
      rw [Q2.out]
      go_wp2_with fail
      refine (chainNext HA9.out).mono ?_
      rintro e w10 ⟨a10, n10, c10, rfl, hi10, hb10⟩
      have HB10 := Lib.hid (HB9.out.trans (hb10.mono HB9.out.size))
      have HA10 := Lib.hid (HA9.out.below hb10)
      have HT10 := Lib.hid (HT9.out.below hb10)
      have HN10 := Lib.hid hi10
      clear hb10 hi10
      go_wp2_with fail
      refine (chainAt (5) (by unfold In64; omega) HN10.out).mono ?_
      rintro e w11 ⟨rfl, hb11⟩
      have HB11 := Lib.hid (HB10.out.trans (hb11.mono HB10.out.size))
      have HA11 := Lib.hid (HA10.out.below hb11)
      have HT11 := Lib.hid (HT10.out.below hb11)
      clear hb11
      rw [Q3.out]
      go_wp2_with fail
      refine (chainAt (6) (by unfold In64; omega) HA11.out).mono ?_
      rintro e w12 ⟨rfl, hb12⟩
      have HB12 := Lib.hid (HB11.out.trans (hb12.mono HB11.out.size))
      have HT12 := Lib.hid (HT11.out.below hb12)
      clear hb12
      go_wp2_with fail
      refine (chainAt 0 (by unfold In64; omega) HT12.out).mono ?_
      rintro e w13 ⟨rfl, hb13⟩
      have HB13 := Lib.hid (HB12.out.trans (hb13.mono HB12.out.size))
      have HT13 := Lib.hid (HT12.out.below hb13)
      clear hb13
      rw [Q4.out]
      go_wp2_with fail
      refine (chainAt (6) (by unfold In64; omega) HT13.out).mono ?_
      rintro e w14 ⟨rfl, hb14⟩
      have HB14 := Lib.hid (HB13.out.trans (hb14.mono HB13.out.size))
      have HT14 := Lib.hid (HT13.out.below hb14)
      clear hb14
      rw [Q5.out]
      go_wp2_with fail
      refine (chainAt (5) (by unfold In64; omega) HT14.out).mono ?_
      rintro e w15 ⟨rfl, hb15⟩
      have HB15 := Lib.hid (HB14.out.trans (hb15.mono HB14.out.size))
      have HT15 := Lib.hid (HT14.out.below hb15)
      clear hb15
      go_wp2
      go_ret
      exact ⟨rfl, HB15.out⟩
  · have Q1 := Lib.hid (F1.out ((N : Int)) (N) rfl)
    have Q2 := Lib.hid (F2.out ((N : Int)) (N) rfl)
    have Q3 := Lib.hid (F3.out ((N : Int)) (((N : Int) + 1)) (N) rfl (by push_cast; rfl))
    have Q4 := Lib.hid F4.out
    have Q5 := Lib.hid (F5.out ((N : Int)) (((N : Int) + 1)) (N) rfl (by push_cast; rfl))
    go_wp2_with fail
    refine (addOk A1.out (lists_two HA.out HD.out)).mono ?_
    rintro e w2 ⟨a2, n2, c2, rfl, hi2, hb2⟩
    replace hb2 := below_alloc hb2
    have HB2 := Lib.hid (HB1.out.trans (hb2.mono HB1.out.size))
    have HA2 := Lib.hid (HA.out.below hb2)
    have HD2 := Lib.hid (HD.out.below hb2)
    have HS2 := Lib.hid hi2
    clear hb2 hi2
    go_wp2_with fail
    refine (mulOk M1.out HA2.out HD2.out).mono ?_
    rintro e w3 ⟨a3, n3, c3, rfl, hi3, hb3⟩
    have HB3 := Lib.hid (HB2.out.trans (hb3.mono HB2.out.size))
    have HA3 := Lib.hid (HA2.out.below hb3)
    have HD3 := Lib.hid (HD2.out.below hb3)
    have HS3 := Lib.hid (HS2.out.below hb3)
    have HP3 := Lib.hid hi3
    clear hb3 hi3
    go_wp2_with fail
    refine (SL.out _ _ HA3.out).mono ?_
    rintro e w4 ⟨a4, n4, c4, rfl, hi4, hb4⟩
    have HB4 := Lib.hid (HB3.out.trans (hb4.mono HB3.out.size))
    have HA4 := Lib.hid (HA3.out.below hb4)
    have HD4 := Lib.hid (HD3.out.below hb4)
    have HS4 := Lib.hid (HS3.out.below hb4)
    have HP4 := Lib.hid (HP3.out.below hb4)
    have HT4 := Lib.hid hi4
    clear hb4 hi4
    go_wp2_with fail
    refine (awake).mono ?_
    rintro e w5 ⟨rfl, hb5⟩
    have HB5 := Lib.hid (HB4.out.trans (hb5.mono HB4.out.size))
    have HA5 := Lib.hid (HA4.out.below hb5)
    have HD5 := Lib.hid (HD4.out.below hb5)
    have HS5 := Lib.hid (HS4.out.below hb5)
    have HP5 := Lib.hid (HP4.out.below hb5)
    have HT5 := Lib.hid (HT4.out.below hb5)
    clear hb5
    go_wp2_with fail
    refine (chainAt ((N : Int)) (by unfold In64; omega) HA5.out).mono ?_
    rintro e w6 ⟨rfl, hb6⟩
    have HB6 := Lib.hid (HB5.out.trans (hb6.mono HB5.out.size))
    have HA6 := Lib.hid (HA5.out.below hb6)
    have HD6 := Lib.hid (HD5.out.below hb6)
    have HS6 := Lib.hid (HS5.out.below hb6)
    have HP6 := Lib.hid (HP5.out.below hb6)
    have HT6 := Lib.hid (HT5.out.below hb6)
    clear hb6
    go_wp2_with fail
    refine (chainAt ((N : Int)) (by unfold In64; omega) HD6.out).mono ?_
    rintro e w7 ⟨rfl, hb7⟩
    have HB7 := Lib.hid (HB6.out.trans (hb7.mono HB6.out.size))
    have HA7 := Lib.hid (HA6.out.below hb7)
    have HS7 := Lib.hid (HS6.out.below hb7)
    have HP7 := Lib.hid (HP6.out.below hb7)
    have HT7 := Lib.hid (HT6.out.below hb7)
    clear hb7
    go_wp2_with fail
    refine (chainAt ((N : Int)) (by unfold In64; omega) HS7.out).mono ?_
    rintro e w8 ⟨rfl, hb8⟩
    have HB8 := Lib.hid (HB7.out.trans (hb8.mono HB7.out.size))
    have HA8 := Lib.hid (HA7.out.below hb8)
    have HP8 := Lib.hid (HP7.out.below hb8)
    have HT8 := Lib.hid (HT7.out.below hb8)
    clear hb8
    rw [Q1.out]
    go_wp2_with fail
    refine (chainAt ((N : Int)) (by unfold In64; omega) HP8.out).mono ?_
    rintro e w9 ⟨rfl, hb9⟩
    have HB9 := Lib.hid (HB8.out.trans (hb9.mono HB8.out.size))
    have HA9 := Lib.hid (HA8.out.below hb9)
    have HT9 := Lib.hid (HT8.out.below hb9)
    clear hb9
    rw [Q2.out]
    go_wp2_with fail
    refine (chainNext HA9.out).mono ?_
    rintro e w10 ⟨a10, n10, c10, rfl, hi10, hb10⟩
    have HB10 := Lib.hid (HB9.out.trans (hb10.mono HB9.out.size))
    have HA10 := Lib.hid (HA9.out.below hb10)
    have HT10 := Lib.hid (HT9.out.below hb10)
    have HN10 := Lib.hid hi10
    clear hb10 hi10
    go_wp2_with fail
    refine (chainAt ((N : Int)) (by unfold In64; omega) HN10.out).mono ?_
    rintro e w11 ⟨rfl, hb11⟩
    have HB11 := Lib.hid (HB10.out.trans (hb11.mono HB10.out.size))
    have HA11 := Lib.hid (HA10.out.below hb11)
    have HT11 := Lib.hid (HT10.out.below hb11)
    clear hb11
    rw [Q3.out]
    go_wp2_with fail
    refine (chainAt ((N : Int) + 1) (by unfold In64; omega) HA11.out).mono ?_
    rintro e w12 ⟨rfl, hb12⟩
    have HB12 := Lib.hid (HB11.out.trans (hb12.mono HB11.out.size))
    have HT12 := Lib.hid (HT11.out.below hb12)
    clear hb12
    go_wp2_with fail
    refine (chainAt 0 (by unfold In64; omega) HT12.out).mono ?_
    rintro e w13 ⟨rfl, hb13⟩
    have HB13 := Lib.hid (HB12.out.trans (hb13.mono HB12.out.size))
    have HT13 := Lib.hid (HT12.out.below hb13)
    clear hb13
    rw [Q4.out]
    go_wp2_with fail
    refine (chainAt ((N : Int) + 1) (by unfold In64; omega) HT13.out).mono ?_
    rintro e w14 ⟨rfl, hb14⟩
    have HB14 := Lib.hid (HB13.out.trans (hb14.mono HB13.out.size))
    have HT14 := Lib.hid (HT13.out.below hb14)
    clear hb14
    rw [Q5.out]
    go_wp2_with fail
    refine (chainAt ((N : Int)) (by unfold In64; omega) HT14.out).mono ?_
    rintro e w15 ⟨rfl, hb15⟩
    have HB15 := Lib.hid (HB14.out.trans (hb15.mono HB14.out.size))
    have HT15 := Lib.hid (HT14.out.below hb15)
    clear hb15
    go_wp2
    go_ret
    exact ⟨rfl, HB15.out⟩
end Go.Proofs.Ytpocmldhgnphlaa
