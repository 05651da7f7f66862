/- Products of spans, the program's. -/
import Derived.Test.YtppnmdplojemcaaSpan8
import Derived.Test.YtppnmdplojemcaaOwn
namespace Go.Proofs.Ytppnmdplojemcaa
set_option linter.unusedSimpArgs false
set_option linter.unusedVariables false
open Go.RowKit

def pt (p : Int) : Sp := ⟨p, p⟩
def pr (a b : Sp) : Nat → Int
  | 0 => a.lo * b.lo
  | 1 => a.lo * b.hi
  | 2 => a.hi * b.lo
  | _ => a.hi * b.hi
def prL (a b : Sp) (k : Nat) : List Sp := (List.range k).map fun q => pt (pr a b q)
theorem prL_succ (a b : Sp) (k : Nat) : prL a b (k + 1) = prL a b k ++ [pt (pr a b k)] := by simp [prL, List.range_succ]
def prF (a b : Sp) (k : Nat) : Prop := ∀ q, q < k → In64 (pr a b q)
def mulS (a b : Sp) : Sp := if a.none || b.none then ⟨0, -1⟩ else if fitB a.lo b.lo && fitB a.lo b.hi && fitB a.hi b.lo && fitB a.hi b.hi then joinL (prL a b 4) else ⟨-9223372036854775808, 9223372036854775807⟩
theorem prF_zero (a b : Sp) : prF a b 0 := fun q hq => by omega
theorem prF_succ {a b : Sp} {k : Nat} (h : prF a b k) (hk : In64 (pr a b k)) : prF a b (k + 1) := fun q hq => by
  by_cases e : q = k
  · rw [e]; exact hk
  · exact h q (by omega)
theorem mulS_yes {a b : Sp} (hn : (a.none || b.none) = false) (h : prF a b 4) : mulS a b = joinL (prL a b 4) := by
  unfold mulS
  rw [hn, (fitB_iff _ _).2 (h 0 (by omega)), (fitB_iff _ _).2 (h 1 (by omega)), (fitB_iff _ _).2 (h 2 (by omega)), (fitB_iff _ _).2 (h 3 (by omega))]
  rfl
theorem mulS_no {a b : Sp} (hn : (a.none || b.none) = false) {k : Nat} (hk : k < 4) (h : ¬ In64 (pr a b k)) : mulS a b = ⟨-9223372036854775808, 9223372036854775807⟩ := by
  unfold mulS
  rw [hn]
  have : (fitB a.lo b.lo && fitB a.lo b.hi && fitB a.hi b.lo && fitB a.hi b.hi) = false := by
    rw [Bool.eq_false_iff]
    intro e
    simp only [Bool.and_eq_true, fitB_iff] at e
    obtain ⟨⟨⟨e0, e1⟩, e2⟩, e3⟩ := e
    match k, hk, h with
    | 0, _, h => exact h e0
    | 1, _, h => exact h e1
    | 2, _, h => exact h e2
    | 3, _, h => exact h e3
  rw [this]; rfl
theorem prL_ok {a b : Sp} {k : Nat} (h : prF a b k) : ∀ p ∈ prL a b k, p.ok := by
  intro p hp
  simp only [prL, List.mem_map, List.mem_range] at hp
  obtain ⟨q, hq, rfl⟩ := hp
  exact ⟨h q hq, h q hq⟩
theorem cellsOf_snoc (l : List Sp) (s : Sp) : cellsOf (l ++ [s]) = cellsOf l ++ [.int .i64 s.lo, .int .i64 s.hi] := by simp [cellsOf]
theorem cellsOf_one (l : List Sp) : ∀ u ∈ cellsOf l, u.oneCell' = true := by
  intro u hu
  simp only [cellsOf, List.mem_flatMap] at hu
  obtain ⟨s, _, hu⟩ := hu
  simp at hu
  rcases hu with rfl | rfl <;> rfl
theorem elSpan : Elem Try.prog 27 23 (.agg #[.int .i64 0, .int .i64 0]) 2 16 :=
  elem_of Try.underlying27 (by kernel_rfl) rfl (by omega)


set_option maxHeartbeats 6400000 in
theorem spanMul {w : World} (a b : Sp) (ha : a.ok) (hb : b.ok) : Calls Try.prog 18 #[a.val, b.val] w fun e w' => e = .returned (mulS a b).val ∧ Below w.heap.size w w' := by
  have HA := Lib.hid ha
  have HB := Lib.hid hb
  clear ha hb
  have HE := Lib.hid (show [a, b].any Sp.none = (a.none || b.none) by simp)
  unfold Sp.val
  go_enter Try.func18, Try.ntmps18
  go_upto_region 1 with (fail)
  have B0 : Hid (Box (((w.alloc (.cells #[.int .i64 a.lo, .int .i64 a.hi] 23)).alloc (.cells #[.int .i64 b.lo, .int .i64 b.hi] 23)).alloc (.cells #[.int .i64 0, .int .i64 0] 23)) (w.heap.size) #[.int .i64 a.lo, .int .i64 a.hi]) := Lib.hid (by simpa using (((Box.new w #[.int .i64 a.lo, .int .i64 a.hi] 23).alloc _).alloc _))
  have B1 : Hid (Box (((w.alloc (.cells #[.int .i64 a.lo, .int .i64 a.hi] 23)).alloc (.cells #[.int .i64 b.lo, .int .i64 b.hi] 23)).alloc (.cells #[.int .i64 0, .int .i64 0] 23)) (w.heap.size + 1) #[.int .i64 b.lo, .int .i64 b.hi]) := Lib.hid (by simpa using ((Box.new (w.alloc (.cells #[.int .i64 a.lo, .int .i64 a.hi] 23)) #[.int .i64 b.lo, .int .i64 b.hi] 23).alloc _))
  have B2 : Hid (Box (((w.alloc (.cells #[.int .i64 a.lo, .int .i64 a.hi] 23)).alloc (.cells #[.int .i64 b.lo, .int .i64 b.hi] 23)).alloc (.cells #[.int .i64 0, .int .i64 0] 23)) (w.heap.size + 1 + 1) #[.int .i64 0, .int .i64 0]) := Lib.hid (by simpa using (Box.new ((w.alloc (.cells #[.int .i64 a.lo, .int .i64 a.hi] 23)).alloc (.cells #[.int .i64 b.lo, .int .i64 b.hi] 23)) #[.int .i64 0, .int .i64 0] 23))
  have HW : Hid (Below w.heap.size w (((w.alloc (.cells #[.int .i64 a.lo, .int .i64 a.hi] 23)).alloc (.cells #[.int .i64 b.lo, .int .i64 b.hi] 23)).alloc (.cells #[.int .i64 0, .int .i64 0] 23))) := Lib.hid ((((Below.refl _ _).alloc (Nat.le_refl _) _).alloc (by simp) _).alloc (by simp; omega) _)
  generalize (((w.alloc (.cells #[.int .i64 a.lo, .int .i64 a.hi] 23)).alloc (.cells #[.int .i64 b.lo, .int .i64 b.hi] 23)).alloc (.cells #[.int .i64 0, .int .i64 0] 23)) = wv at *
  obtain ⟨lB0, cB0, fB0⟩ := B0.out
  obtain ⟨lB1, cB1, fB1⟩ := B1.out
  obtain ⟨lB2, cB2, fB2⟩ := B2.out
  go_wp2_with fail
  refine (empty (spans_two HA.out HB.out)).mono ?_
  rintro e w4 ⟨rfl, hb4⟩
  replace hb4 := below_alloc hb4
  clear lB0 cB0 fB0 lB1 cB1 fB1 lB2 cB2 fB2
  replace B0 := Lib.hid (B0.out.later hb4)
  replace B1 := Lib.hid (B1.out.later hb4)
  replace B2 := Lib.hid (B2.out.later hb4)
  replace HW := Lib.hid (HW.out.trans (hb4.mono HW.out.size))
  clear hb4
  obtain ⟨lB0, cB0, fB0⟩ := B0.out
  obtain ⟨lB1, cB1, fB1⟩ := B1.out
  obtain ⟨lB2, cB2, fB2⟩ := B2.out
  rw [HE.out]
  cases hem : (a.none || b.none)
  case true =>
    have HM := Lib.hid (show mulS a b = ⟨0, -1⟩ by unfold mulS; rw [hem]; rfl)
    clear hem
    go_wp2_with fail
    refine none_any.mono ?_
    rintro e w9 ⟨rfl, hb9⟩
    clear lB0 cB0 fB0 lB1 cB1 fB1 lB2 cB2 fB2
    replace B0 := Lib.hid (B0.out.later hb9)
    replace B1 := Lib.hid (B1.out.later hb9)
    replace B2 := Lib.hid (B2.out.later hb9)
    replace HW := Lib.hid (HW.out.trans (hb9.mono HW.out.size))
    clear hb9
    obtain ⟨lB0, cB0, fB0⟩ := B0.out
    obtain ⟨lB1, cB1, fB1⟩ := B1.out
    obtain ⟨lB2, cB2, fB2⟩ := B2.out
    unfold Sp.val
    go_wp2
    exact bodyPost_ret (v := .agg #[.int .i64 0, .int .i64 (-1)]) (by simp [results, Try.results18, go_sem, *]) rfl ⟨by rw [HM.out], (HW.out.setCell (by simp; omega) _).setCell (by simp; omega) _⟩
  case false =>
    have HN := Lib.hid hem
    clear hem
    go_upto_region 5 with (fail)
    have Z4 := lB2
    have nB4B0 : w4.heap.size ≠ w.heap.size := fun e => by have := lB0; omega
    have nB0B4 : w.heap.size ≠ w4.heap.size := fun e => nB4B0 e.symm
    have nB4B1 : w4.heap.size ≠ w.heap.size + 1 := fun e => by have := lB1; omega
    have nB1B4 : w.heap.size + 1 ≠ w4.heap.size := fun e => nB4B1 e.symm
    have nB4B2 : w4.heap.size ≠ w.heap.size + 1 + 1 := fun e => by have := lB2; omega
    have nB2B4 : w.heap.size + 1 + 1 ≠ w4.heap.size := fun e => nB4B2 e.symm
    have B0_ : Box (w4.alloc (.cells #[.int .i64 a.lo, .int .i64 a.hi] 3)) (w.heap.size) #[.int .i64 a.lo, .int .i64 a.hi] := by simpa using (B0.out.alloc _)
    have B1_ : Box (w4.alloc (.cells #[.int .i64 a.lo, .int .i64 a.hi] 3)) (w.heap.size + 1) #[.int .i64 b.lo, .int .i64 b.hi] := by simpa using (B1.out.alloc _)
    have B2_ : Box (w4.alloc (.cells #[.int .i64 a.lo, .int .i64 a.hi] 3)) (w.heap.size + 1 + 1) #[.int .i64 0, .int .i64 0] := by simpa using (B2.out.alloc _)
    have B4_ : Box (w4.alloc (.cells #[.int .i64 a.lo, .int .i64 a.hi] 3)) (w4.heap.size) #[.int .i64 a.lo, .int .i64 a.hi] := by simpa using (Box.new w4 #[.int .i64 a.lo, .int .i64 a.hi] 3)
    have HW_ : Below w.heap.size w (w4.alloc (.cells #[.int .i64 a.lo, .int .i64 a.hi] 3)) := (HW.out.alloc (by first | exact Nat.le_refl _ | exact HW.out.size | (simp only [World.size_alloc, World.size_setCell]; have := HW.out.size; omega)) _)
    clear lB0 cB0 fB0 lB1 cB1 fB1 lB2 cB2 fB2
    clear B0 B1 B2 HW
    generalize (w4.alloc (.cells #[.int .i64 a.lo, .int .i64 a.hi] 3)) = wl at *
    have B0 := Lib.hid B0_
    clear B0_
    have B1 := Lib.hid B1_
    clear B1_
    have B2 := Lib.hid B2_
    clear B2_
    have B4 := Lib.hid B4_
    clear B4_
    have HW := Lib.hid HW_
    clear HW_
    obtain ⟨lB0, cB0, fB0⟩ := B0.out
    obtain ⟨lB1, cB1, fB1⟩ := B1.out
    obtain ⟨lB2, cB2, fB2⟩ := B2.out
    obtain ⟨lB4, cB4, fB4⟩ := B4.out
    go_wp2
    go_loopw [5, 23] (fun v i wr => ∃ k : Nat, k ≤ 2 ∧ i = .int .i64 k ∧ prF a b (2 * k) ∧ Own wr w.heap.size [w4.heap.size, w.heap.size + 1 + 1, w.heap.size + 1, w.heap.size] 23 2 v (2 * k) (cellsOf (prL a b (2 * k))) ∧
        Box wr w.heap.size #[.int .i64 a.lo, .int .i64 a.hi] ∧ Box wr (w.heap.size + 1) #[.int .i64 b.lo, .int .i64 b.hi] ∧ Box wr (w.heap.size + 1 + 1) #[.int .i64 0, .int .i64 0] ∧ Box wr w4.heap.size #[.int .i64 a.lo, .int .i64 a.hi] ∧ Below w.heap.size w wr) (fun _ i _ => 2 - (intOf i).toNat)
    case atStart => exact ⟨0, by omega, rfl, prF_zero _ _, Own.nil, B0.out, B1.out, B2.out, B4.out, HW.out⟩
    case round =>
      obtain ⟨k, hk, rfl, hf, ho, h0, h1, h2, h4, hw⟩ := hrel
      clear lB0 cB0 fB0 lB1 cB1 fB1 lB2 cB2 fB2 lB4 cB4 fB4
      clear B0 B1 B2 B4 HW
      have HF := Lib.hid hf
      have OL := Lib.hid ho
      have B0 := Lib.hid h0
      have B1 := Lib.hid h1
      have B2 := Lib.hid h2
      have B4 := Lib.hid h4
      have HW := Lib.hid hw
      clear hf ho h0 h1 h2 h4 hw


      obtain ⟨lB0, cB0, fB0⟩ := B0.out
      obtain ⟨lB1, cB1, fB1⟩ := B1.out
      obtain ⟨lB2, cB2, fB2⟩ := B2.out
      obtain ⟨lB4, cB4, fB4⟩ := B4.out
      obtain rfl | rfl | rfl : k = 0 ∨ k = 1 ∨ k = 2 := by omega
      · simp only [Nat.mul_zero] at HF OL
        go_upto_region 8 with (fail)
        replace OL := Lib.hid (OL.out.more (b := wr.heap.size) (Nat.le_refl _))
        have nB7B0 : wr.heap.size ≠ w.heap.size := fun e => by have := lB0; omega
        have nB0B7 : w.heap.size ≠ wr.heap.size := fun e => nB7B0 e.symm
        have nB7B1 : wr.heap.size ≠ w.heap.size + 1 := fun e => by have := lB1; omega
        have nB1B7 : w.heap.size + 1 ≠ wr.heap.size := fun e => nB7B1 e.symm
        have nB7B2 : wr.heap.size ≠ w.heap.size + 1 + 1 := fun e => by have := lB2; omega
        have nB2B7 : w.heap.size + 1 + 1 ≠ wr.heap.size := fun e => nB7B2 e.symm
        have nB7B4 : wr.heap.size ≠ w4.heap.size := fun e => by have := lB4; omega
        have nB4B7 : w4.heap.size ≠ wr.heap.size := fun e => nB7B4 e.symm
        have B0_ : Box (wr.alloc (.cells #[.int .i64 b.lo, .int .i64 b.hi] 3)) (w.heap.size) #[.int .i64 a.lo, .int .i64 a.hi] := by simpa using (B0.out.alloc _)
        have B1_ : Box (wr.alloc (.cells #[.int .i64 b.lo, .int .i64 b.hi] 3)) (w.heap.size + 1) #[.int .i64 b.lo, .int .i64 b.hi] := by simpa using (B1.out.alloc _)
        have B2_ : Box (wr.alloc (.cells #[.int .i64 b.lo, .int .i64 b.hi] 3)) (w.heap.size + 1 + 1) #[.int .i64 0, .int .i64 0] := by simpa using (B2.out.alloc _)
        have B4_ : Box (wr.alloc (.cells #[.int .i64 b.lo, .int .i64 b.hi] 3)) (w4.heap.size) #[.int .i64 a.lo, .int .i64 a.hi] := by simpa using (B4.out.alloc _)
        have B7_ : Box (wr.alloc (.cells #[.int .i64 b.lo, .int .i64 b.hi] 3)) (wr.heap.size) #[.int .i64 b.lo, .int .i64 b.hi] := by simpa using (Box.new wr #[.int .i64 b.lo, .int .i64 b.hi] 3)
        have OL_ := (OL.out.alloc (.cells #[.int .i64 b.lo, .int .i64 b.hi] 3))
        have HW_ : Below w.heap.size w (wr.alloc (.cells #[.int .i64 b.lo, .int .i64 b.hi] 3)) := (HW.out.alloc (by first | exact Nat.le_refl _ | exact HW.out.size | (simp only [World.size_alloc, World.size_setCell]; have := HW.out.size; omega)) _)
        clear lB0 cB0 fB0 lB1 cB1 fB1 lB2 cB2 fB2 lB4 cB4 fB4
        clear B0 B1 B2 B4 OL HW
        generalize (wr.alloc (.cells #[.int .i64 b.lo, .int .i64 b.hi] 3)) = wm at *
        have B0 := Lib.hid B0_
        clear B0_
        have B1 := Lib.hid B1_
        clear B1_
        have B2 := Lib.hid B2_
        clear B2_
        have B4 := Lib.hid B4_
        clear B4_
        have B7 := Lib.hid B7_
        clear B7_
        have OL := Lib.hid OL_
        clear OL_
        have HW := Lib.hid HW_
        clear HW_
        obtain ⟨lB0, cB0, fB0⟩ := B0.out
        obtain ⟨lB1, cB1, fB1⟩ := B1.out
        obtain ⟨lB2, cB2, fB2⟩ := B2.out
        obtain ⟨lB4, cB4, fB4⟩ := B4.out
        obtain ⟨lB7, cB7, fB7⟩ := B7.out
        go_wp2
        go_loopw [5, 33] (fun v j ws => ∃ k : Nat, k ≤ 2 ∧ j = .int .i64 k ∧ prF a b (0 + k) ∧ Own ws w.heap.size [wr.heap.size, w4.heap.size, w.heap.size + 1 + 1, w.heap.size + 1, w.heap.size] 23 2 v (0 + k) (cellsOf (prL a b (0 + k))) ∧
            Box ws w.heap.size #[.int .i64 a.lo, .int .i64 a.hi] ∧ Box ws (w.heap.size + 1) #[.int .i64 b.lo, .int .i64 b.hi] ∧ Box ws (w.heap.size + 1 + 1) #[.int .i64 0, .int .i64 0] ∧ Box ws w4.heap.size #[.int .i64 a.lo, .int .i64 a.hi] ∧ Box ws wr.heap.size #[.int .i64 b.lo, .int .i64 b.hi] ∧ Below w.heap.size w ws) (fun _ j _ => 2 - (intOf j).toNat)
        case atStart => exact ⟨0, by omega, rfl, HF.out, OL.out, B0.out, B1.out, B2.out, B4.out, B7.out, HW.out⟩
        case round =>
          obtain ⟨k, hk, rfl, hf, ho, h0, h1, h2, h4, h7, hw⟩ := hrel
          clear lB0 cB0 fB0 lB1 cB1 fB1 lB2 cB2 fB2 lB4 cB4 fB4 lB7 cB7 fB7
          clear B0 B1 B2 B4 B7 HW HF OL
          have HF := Lib.hid hf
          have OL := Lib.hid ho
          have B0 := Lib.hid h0
          have B1 := Lib.hid h1
          have B2 := Lib.hid h2
          have B4 := Lib.hid h4
          have B7 := Lib.hid h7
          have HW := Lib.hid hw
          clear hf ho h0 h1 h2 h4 h7 hw

          obtain ⟨lB0, cB0, fB0⟩ := B0.out
          obtain ⟨lB1, cB1, fB1⟩ := B1.out
          obtain ⟨lB2, cB2, fB2⟩ := B2.out
          obtain ⟨lB4, cB4, fB4⟩ := B4.out
          obtain ⟨lB7, cB7, fB7⟩ := B7.out
          obtain rfl | rfl | rfl : k = 0 ∨ k = 1 ∨ k = 2 := by omega
          ·
            go_wp2_with fail
            refine (spanTimes a.lo b.lo HA.out.1 HB.out.1).mono ?_
            rintro e w5 ⟨rfl, rfl⟩
            cases hfit : fitB a.lo b.lo
            case true =>
              have HF2 := Lib.hid (prF_succ HF.out (show In64 (pr a b (0 + 0)) from (fitB_iff _ _).1 hfit))
              have HV := Lib.hid (wrap_in ((fitB_iff _ _).1 hfit))
              have HC := Lib.hid (show cellsOf (prL a b (0 + 0)) ++ #[.int .i64 (a.lo * b.lo), .int .i64 (a.lo * b.lo)].toList = cellsOf (prL a b (0 + (0 + 1))) by rw [← Nat.add_assoc, prL_succ, cellsOf_snoc]; rfl)
              clear hfit
              rw [HV.out]
              go_wp2_with (at_builtin; refine wpList_own rfl _ _ 27 23 rfl elSpan rfl rfl (OL.out.alloc _) (Row.of_box (n := 1) (size := 2) (Box.new _ _ _) rfl (by omega)) (by simp [Value.oneCell']) (by unfold maxLen; omega) (by omega) (by simp; have := HW.out.size; omega) (by intro b hb; simp at hb ⊢; omega) ?_; intro v2 w2 hO2 hBs2 hB2)
              clear lB0 cB0 fB0 lB1 cB1 fB1 lB2 cB2 fB2 lB4 cB4 fB4 lB7 cB7 fB7
              replace B0 := Lib.hid (hBs2 _ _ (by simp) (B0.out.alloc _))
              replace B1 := Lib.hid (hBs2 _ _ (by simp) (B1.out.alloc _))
              replace B2 := Lib.hid (hBs2 _ _ (by simp) (B2.out.alloc _))
              replace B4 := Lib.hid (hBs2 _ _ (by simp) (B4.out.alloc _))
              replace B7 := Lib.hid (hBs2 _ _ (by simp) (B7.out.alloc _))
              replace OL := Lib.hid hO2
              replace HW := Lib.hid ((HW.out.alloc (by have := HW.out.size; omega) _).trans hB2)
              clear hO2 hBs2 hB2
              obtain ⟨lB0, cB0, fB0⟩ := B0.out
              obtain ⟨lB1, cB1, fB1⟩ := B1.out
              obtain ⟨lB2, cB2, fB2⟩ := B2.out
              obtain ⟨lB4, cB4, fB4⟩ := B4.out
              obtain ⟨lB7, cB7, fB7⟩ := B7.out
              go_wp2
              go_roundw
              case rel => exact ⟨_, _, _, _, _, ⟨0 + 1, by omega, by go_num, HF2.out, HC.out ▸ OL.out, B0.out, B1.out, B2.out, B4.out, B7.out, HW.out⟩, rfl, rfl, rfl, rfl, rfl⟩
              case measure => simp [intOf]
            case false =>
              have HM := Lib.hid (mulS_no HN.out (k := 0 + 0) (by omega) (show ¬ In64 (pr a b (0 + 0)) from (fitB_not _ _).1 hfit))
              clear hfit
              go_wp2_with fail
              refine all_any.mono ?_
              rintro e w9 ⟨rfl, hb9⟩
              clear lB0 cB0 fB0 lB1 cB1 fB1 lB2 cB2 fB2 lB4 cB4 fB4 lB7 cB7 fB7
              replace B0 := Lib.hid (B0.out.later hb9)
              replace B1 := Lib.hid (B1.out.later hb9)
              replace B2 := Lib.hid (B2.out.later hb9)
              replace B4 := Lib.hid (B4.out.later hb9)
              replace B7 := Lib.hid (B7.out.later hb9)
              replace OL := Lib.hid (OL.out.later hb9)
              replace HW := Lib.hid (HW.out.trans (hb9.mono HW.out.size))
              clear hb9
              obtain ⟨lB0, cB0, fB0⟩ := B0.out
              obtain ⟨lB1, cB1, fB1⟩ := B1.out
              obtain ⟨lB2, cB2, fB2⟩ := B2.out
              obtain ⟨lB4, cB4, fB4⟩ := B4.out
              obtain ⟨lB7, cB7, fB7⟩ := B7.out
              unfold Sp.val
              go_wp2
              exact bodyPost_ret (v := .agg #[.int .i64 (-9223372036854775808), .int .i64 9223372036854775807]) (by simp [results, Try.results18, go_sem, *]) rfl ⟨by rw [HM.out], (HW.out.setCell (by simp; omega) _).setCell (by simp; omega) _⟩
          ·
            go_wp2_with fail
            refine (spanTimes a.lo b.hi HA.out.1 HB.out.2).mono ?_
            rintro e w5 ⟨rfl, rfl⟩
            cases hfit : fitB a.lo b.hi
            case true =>
              have HF2 := Lib.hid (prF_succ HF.out (show In64 (pr a b (0 + 1)) from (fitB_iff _ _).1 hfit))
              have HV := Lib.hid (wrap_in ((fitB_iff _ _).1 hfit))
              have HC := Lib.hid (show cellsOf (prL a b (0 + 1)) ++ #[.int .i64 (a.lo * b.hi), .int .i64 (a.lo * b.hi)].toList = cellsOf (prL a b (0 + (1 + 1))) by rw [← Nat.add_assoc, prL_succ, cellsOf_snoc]; rfl)
              clear hfit
              rw [HV.out]
              go_wp2_with (at_builtin; refine wpList_own rfl _ _ 27 23 rfl elSpan rfl rfl (OL.out.alloc _) (Row.of_box (n := 1) (size := 2) (Box.new _ _ _) rfl (by omega)) (by simp [Value.oneCell']) (by unfold maxLen; omega) (by omega) (by simp; have := HW.out.size; omega) (by intro b hb; simp at hb ⊢; omega) ?_; intro v2 w2 hO2 hBs2 hB2)
              clear lB0 cB0 fB0 lB1 cB1 fB1 lB2 cB2 fB2 lB4 cB4 fB4 lB7 cB7 fB7
              replace B0 := Lib.hid (hBs2 _ _ (by simp) (B0.out.alloc _))
              replace B1 := Lib.hid (hBs2 _ _ (by simp) (B1.out.alloc _))
              replace B2 := Lib.hid (hBs2 _ _ (by simp) (B2.out.alloc _))
              replace B4 := Lib.hid (hBs2 _ _ (by simp) (B4.out.alloc _))
              replace B7 := Lib.hid (hBs2 _ _ (by simp) (B7.out.alloc _))
              replace OL := Lib.hid hO2
              replace HW := Lib.hid ((HW.out.alloc (by have := HW.out.size; omega) _).trans hB2)
              clear hO2 hBs2 hB2
              obtain ⟨lB0, cB0, fB0⟩ := B0.out
              obtain ⟨lB1, cB1, fB1⟩ := B1.out
              obtain ⟨lB2, cB2, fB2⟩ := B2.out
              obtain ⟨lB4, cB4, fB4⟩ := B4.out
              obtain ⟨lB7, cB7, fB7⟩ := B7.out
              go_wp2
              go_roundw
              case rel => exact ⟨_, _, _, _, _, ⟨1 + 1, by omega, by go_num, HF2.out, HC.out ▸ OL.out, B0.out, B1.out, B2.out, B4.out, B7.out, HW.out⟩, rfl, rfl, rfl, rfl, rfl⟩
              case measure => simp [intOf]
            case false =>
              have HM := Lib.hid (mulS_no HN.out (k := 0 + 1) (by omega) (show ¬ In64 (pr a b (0 + 1)) from (fitB_not _ _).1 hfit))
              clear hfit
              go_wp2_with fail
              refine all_any.mono ?_
              rintro e w9 ⟨rfl, hb9⟩
              clear lB0 cB0 fB0 lB1 cB1 fB1 lB2 cB2 fB2 lB4 cB4 fB4 lB7 cB7 fB7
              replace B0 := Lib.hid (B0.out.later hb9)
              replace B1 := Lib.hid (B1.out.later hb9)
              replace B2 := Lib.hid (B2.out.later hb9)
              replace B4 := Lib.hid (B4.out.later hb9)
              replace B7 := Lib.hid (B7.out.later hb9)
              replace OL := Lib.hid (OL.out.later hb9)
              replace HW := Lib.hid (HW.out.trans (hb9.mono HW.out.size))
              clear hb9
              obtain ⟨lB0, cB0, fB0⟩ := B0.out
              obtain ⟨lB1, cB1, fB1⟩ := B1.out
              obtain ⟨lB2, cB2, fB2⟩ := B2.out
              obtain ⟨lB4, cB4, fB4⟩ := B4.out
              obtain ⟨lB7, cB7, fB7⟩ := B7.out
              unfold Sp.val
              go_wp2
              exact bodyPost_ret (v := .agg #[.int .i64 (-9223372036854775808), .int .i64 9223372036854775807]) (by simp [results, Try.results18, go_sem, *]) rfl ⟨by rw [HM.out], (HW.out.setCell (by simp; omega) _).setCell (by simp; omega) _⟩
          · go_wp2
            go_roundw
            case rel => exact ⟨1, by omega, by go_num, HF.out, OL.out.less (by simp), B0.out, B1.out, B2.out, B4.out, HW.out⟩
            case measure => simp [intOf]
      · simp only [Nat.mul_one] at HF OL
        go_upto_region 8 with (fail)
        replace OL := Lib.hid (OL.out.more (b := wr.heap.size) (Nat.le_refl _))
        have nB7B0 : wr.heap.size ≠ w.heap.size := fun e => by have := lB0; omega
        have nB0B7 : w.heap.size ≠ wr.heap.size := fun e => nB7B0 e.symm
        have nB7B1 : wr.heap.size ≠ w.heap.size + 1 := fun e => by have := lB1; omega
        have nB1B7 : w.heap.size + 1 ≠ wr.heap.size := fun e => nB7B1 e.symm
        have nB7B2 : wr.heap.size ≠ w.heap.size + 1 + 1 := fun e => by have := lB2; omega
        have nB2B7 : w.heap.size + 1 + 1 ≠ wr.heap.size := fun e => nB7B2 e.symm
        have nB7B4 : wr.heap.size ≠ w4.heap.size := fun e => by have := lB4; omega
        have nB4B7 : w4.heap.size ≠ wr.heap.size := fun e => nB7B4 e.symm
        have B0_ : Box (wr.alloc (.cells #[.int .i64 b.lo, .int .i64 b.hi] 3)) (w.heap.size) #[.int .i64 a.lo, .int .i64 a.hi] := by simpa using (B0.out.alloc _)
        have B1_ : Box (wr.alloc (.cells #[.int .i64 b.lo, .int .i64 b.hi] 3)) (w.heap.size + 1) #[.int .i64 b.lo, .int .i64 b.hi] := by simpa using (B1.out.alloc _)
        have B2_ : Box (wr.alloc (.cells #[.int .i64 b.lo, .int .i64 b.hi] 3)) (w.heap.size + 1 + 1) #[.int .i64 0, .int .i64 0] := by simpa using (B2.out.alloc _)
        have B4_ : Box (wr.alloc (.cells #[.int .i64 b.lo, .int .i64 b.hi] 3)) (w4.heap.size) #[.int .i64 a.lo, .int .i64 a.hi] := by simpa using (B4.out.alloc _)
        have B7_ : Box (wr.alloc (.cells #[.int .i64 b.lo, .int .i64 b.hi] 3)) (wr.heap.size) #[.int .i64 b.lo, .int .i64 b.hi] := by simpa using (Box.new wr #[.int .i64 b.lo, .int .i64 b.hi] 3)
        have OL_ := (OL.out.alloc (.cells #[.int .i64 b.lo, .int .i64 b.hi] 3))
        have HW_ : Below w.heap.size w (wr.alloc (.cells #[.int .i64 b.lo, .int .i64 b.hi] 3)) := (HW.out.alloc (by first | exact Nat.le_refl _ | exact HW.out.size | (simp only [World.size_alloc, World.size_setCell]; have := HW.out.size; omega)) _)
        clear lB0 cB0 fB0 lB1 cB1 fB1 lB2 cB2 fB2 lB4 cB4 fB4
        clear B0 B1 B2 B4 OL HW
        generalize (wr.alloc (.cells #[.int .i64 b.lo, .int .i64 b.hi] 3)) = wm at *
        have B0 := Lib.hid B0_
        clear B0_
        have B1 := Lib.hid B1_
        clear B1_
        have B2 := Lib.hid B2_
        clear B2_
        have B4 := Lib.hid B4_
        clear B4_
        have B7 := Lib.hid B7_
        clear B7_
        have OL := Lib.hid OL_
        clear OL_
        have HW := Lib.hid HW_
        clear HW_
        obtain ⟨lB0, cB0, fB0⟩ := B0.out
        obtain ⟨lB1, cB1, fB1⟩ := B1.out
        obtain ⟨lB2, cB2, fB2⟩ := B2.out
        obtain ⟨lB4, cB4, fB4⟩ := B4.out
        obtain ⟨lB7, cB7, fB7⟩ := B7.out
        go_wp2
        go_loopw [5, 33] (fun v j ws => ∃ k : Nat, k ≤ 2 ∧ j = .int .i64 k ∧ prF a b (2 + k) ∧ Own ws w.heap.size [wr.heap.size, w4.heap.size, w.heap.size + 1 + 1, w.heap.size + 1, w.heap.size] 23 2 v (2 + k) (cellsOf (prL a b (2 + k))) ∧
            Box ws w.heap.size #[.int .i64 a.lo, .int .i64 a.hi] ∧ Box ws (w.heap.size + 1) #[.int .i64 b.lo, .int .i64 b.hi] ∧ Box ws (w.heap.size + 1 + 1) #[.int .i64 0, .int .i64 0] ∧ Box ws w4.heap.size #[.int .i64 a.lo, .int .i64 a.hi] ∧ Box ws wr.heap.size #[.int .i64 b.lo, .int .i64 b.hi] ∧ Below w.heap.size w ws) (fun _ j _ => 2 - (intOf j).toNat)
        case atStart => exact ⟨0, by omega, rfl, HF.out, OL.out, B0.out, B1.out, B2.out, B4.out, B7.out, HW.out⟩
        case round =>
          obtain ⟨k, hk, rfl, hf, ho, h0, h1, h2, h4, h7, hw⟩ := hrel
          clear lB0 cB0 fB0 lB1 cB1 fB1 lB2 cB2 fB2 lB4 cB4 fB4 lB7 cB7 fB7
          clear B0 B1 B2 B4 B7 HW HF OL
          have HF := Lib.hid hf
          have OL := Lib.hid ho
          have B0 := Lib.hid h0
          have B1 := Lib.hid h1
          have B2 := Lib.hid h2
          have B4 := Lib.hid h4
          have B7 := Lib.hid h7
          have HW := Lib.hid hw
          clear hf ho h0 h1 h2 h4 h7 hw

          obtain ⟨lB0, cB0, fB0⟩ := B0.out
          obtain ⟨lB1, cB1, fB1⟩ := B1.out
          obtain ⟨lB2, cB2, fB2⟩ := B2.out
          obtain ⟨lB4, cB4, fB4⟩ := B4.out
          obtain ⟨lB7, cB7, fB7⟩ := B7.out
          obtain rfl | rfl | rfl : k = 0 ∨ k = 1 ∨ k = 2 := by omega
          ·
            go_wp2_with fail
            refine (spanTimes a.hi b.lo HA.out.2 HB.out.1).mono ?_
            rintro e w5 ⟨rfl, rfl⟩
            cases hfit : fitB a.hi b.lo
            case true =>
              have HF2 := Lib.hid (prF_succ HF.out (show In64 (pr a b (2 + 0)) from (fitB_iff _ _).1 hfit))
              have HV := Lib.hid (wrap_in ((fitB_iff _ _).1 hfit))
              have HC := Lib.hid (show cellsOf (prL a b (2 + 0)) ++ #[.int .i64 (a.hi * b.lo), .int .i64 (a.hi * b.lo)].toList = cellsOf (prL a b (2 + (0 + 1))) by rw [← Nat.add_assoc, prL_succ, cellsOf_snoc]; rfl)
              clear hfit
              rw [HV.out]
              go_wp2_with (at_builtin; refine wpList_own rfl _ _ 27 23 rfl elSpan rfl rfl (OL.out.alloc _) (Row.of_box (n := 1) (size := 2) (Box.new _ _ _) rfl (by omega)) (by simp [Value.oneCell']) (by unfold maxLen; omega) (by omega) (by simp; have := HW.out.size; omega) (by intro b hb; simp at hb ⊢; omega) ?_; intro v2 w2 hO2 hBs2 hB2)
              clear lB0 cB0 fB0 lB1 cB1 fB1 lB2 cB2 fB2 lB4 cB4 fB4 lB7 cB7 fB7
              replace B0 := Lib.hid (hBs2 _ _ (by simp) (B0.out.alloc _))
              replace B1 := Lib.hid (hBs2 _ _ (by simp) (B1.out.alloc _))
              replace B2 := Lib.hid (hBs2 _ _ (by simp) (B2.out.alloc _))
              replace B4 := Lib.hid (hBs2 _ _ (by simp) (B4.out.alloc _))
              replace B7 := Lib.hid (hBs2 _ _ (by simp) (B7.out.alloc _))
              replace OL := Lib.hid hO2
              replace HW := Lib.hid ((HW.out.alloc (by have := HW.out.size; omega) _).trans hB2)
              clear hO2 hBs2 hB2
              obtain ⟨lB0, cB0, fB0⟩ := B0.out
              obtain ⟨lB1, cB1, fB1⟩ := B1.out
              obtain ⟨lB2, cB2, fB2⟩ := B2.out
              obtain ⟨lB4, cB4, fB4⟩ := B4.out
              obtain ⟨lB7, cB7, fB7⟩ := B7.out
              go_wp2
              go_roundw
              case rel => exact ⟨_, _, _, _, _, ⟨0 + 1, by omega, by go_num, HF2.out, HC.out ▸ OL.out, B0.out, B1.out, B2.out, B4.out, B7.out, HW.out⟩, rfl, rfl, rfl, rfl, rfl⟩
              case measure => simp [intOf]
            case false =>
              have HM := Lib.hid (mulS_no HN.out (k := 2 + 0) (by omega) (show ¬ In64 (pr a b (2 + 0)) from (fitB_not _ _).1 hfit))
              clear hfit
              go_wp2_with fail
              refine all_any.mono ?_
              rintro e w9 ⟨rfl, hb9⟩
              clear lB0 cB0 fB0 lB1 cB1 fB1 lB2 cB2 fB2 lB4 cB4 fB4 lB7 cB7 fB7
              replace B0 := Lib.hid (B0.out.later hb9)
              replace B1 := Lib.hid (B1.out.later hb9)
              replace B2 := Lib.hid (B2.out.later hb9)
              replace B4 := Lib.hid (B4.out.later hb9)
              replace B7 := Lib.hid (B7.out.later hb9)
              replace OL := Lib.hid (OL.out.later hb9)
              replace HW := Lib.hid (HW.out.trans (hb9.mono HW.out.size))
              clear hb9
              obtain ⟨lB0, cB0, fB0⟩ := B0.out
              obtain ⟨lB1, cB1, fB1⟩ := B1.out
              obtain ⟨lB2, cB2, fB2⟩ := B2.out
              obtain ⟨lB4, cB4, fB4⟩ := B4.out
              obtain ⟨lB7, cB7, fB7⟩ := B7.out
              unfold Sp.val
              go_wp2
              exact bodyPost_ret (v := .agg #[.int .i64 (-9223372036854775808), .int .i64 9223372036854775807]) (by simp [results, Try.results18, go_sem, *]) rfl ⟨by rw [HM.out], (HW.out.setCell (by simp; omega) _).setCell (by simp; omega) _⟩
          ·
            go_wp2_with fail
            refine (spanTimes a.hi b.hi HA.out.2 HB.out.2).mono ?_
            rintro e w5 ⟨rfl, rfl⟩
            cases hfit : fitB a.hi b.hi
            case true =>
              have HF2 := Lib.hid (prF_succ HF.out (show In64 (pr a b (2 + 1)) from (fitB_iff _ _).1 hfit))
              have HV := Lib.hid (wrap_in ((fitB_iff _ _).1 hfit))
              have HC := Lib.hid (show cellsOf (prL a b (2 + 1)) ++ #[.int .i64 (a.hi * b.hi), .int .i64 (a.hi * b.hi)].toList = cellsOf (prL a b (2 + (1 + 1))) by rw [← Nat.add_assoc, prL_succ, cellsOf_snoc]; rfl)
              clear hfit
              rw [HV.out]
              go_wp2_with (at_builtin; refine wpList_own rfl _ _ 27 23 rfl elSpan rfl rfl (OL.out.alloc _) (Row.of_box (n := 1) (size := 2) (Box.new _ _ _) rfl (by omega)) (by simp [Value.oneCell']) (by unfold maxLen; omega) (by omega) (by simp; have := HW.out.size; omega) (by intro b hb; simp at hb ⊢; omega) ?_; intro v2 w2 hO2 hBs2 hB2)
              clear lB0 cB0 fB0 lB1 cB1 fB1 lB2 cB2 fB2 lB4 cB4 fB4 lB7 cB7 fB7
              replace B0 := Lib.hid (hBs2 _ _ (by simp) (B0.out.alloc _))
              replace B1 := Lib.hid (hBs2 _ _ (by simp) (B1.out.alloc _))
              replace B2 := Lib.hid (hBs2 _ _ (by simp) (B2.out.alloc _))
              replace B4 := Lib.hid (hBs2 _ _ (by simp) (B4.out.alloc _))
              replace B7 := Lib.hid (hBs2 _ _ (by simp) (B7.out.alloc _))
              replace OL := Lib.hid hO2
              replace HW := Lib.hid ((HW.out.alloc (by have := HW.out.size; omega) _).trans hB2)
              clear hO2 hBs2 hB2
              obtain ⟨lB0, cB0, fB0⟩ := B0.out
              obtain ⟨lB1, cB1, fB1⟩ := B1.out
              obtain ⟨lB2, cB2, fB2⟩ := B2.out
              obtain ⟨lB4, cB4, fB4⟩ := B4.out
              obtain ⟨lB7, cB7, fB7⟩ := B7.out
              go_wp2
              go_roundw
              case rel => exact ⟨_, _, _, _, _, ⟨1 + 1, by omega, by go_num, HF2.out, HC.out ▸ OL.out, B0.out, B1.out, B2.out, B4.out, B7.out, HW.out⟩, rfl, rfl, rfl, rfl, rfl⟩
              case measure => simp [intOf]
            case false =>
              have HM := Lib.hid (mulS_no HN.out (k := 2 + 1) (by omega) (show ¬ In64 (pr a b (2 + 1)) from (fitB_not _ _).1 hfit))
              clear hfit
              go_wp2_with fail
              refine all_any.mono ?_
              rintro e w9 ⟨rfl, hb9⟩
              clear lB0 cB0 fB0 lB1 cB1 fB1 lB2 cB2 fB2 lB4 cB4 fB4 lB7 cB7 fB7
              replace B0 := Lib.hid (B0.out.later hb9)
              replace B1 := Lib.hid (B1.out.later hb9)
              replace B2 := Lib.hid (B2.out.later hb9)
              replace B4 := Lib.hid (B4.out.later hb9)
              replace B7 := Lib.hid (B7.out.later hb9)
              replace OL := Lib.hid (OL.out.later hb9)
              replace HW := Lib.hid (HW.out.trans (hb9.mono HW.out.size))
              clear hb9
              obtain ⟨lB0, cB0, fB0⟩ := B0.out
              obtain ⟨lB1, cB1, fB1⟩ := B1.out
              obtain ⟨lB2, cB2, fB2⟩ := B2.out
              obtain ⟨lB4, cB4, fB4⟩ := B4.out
              obtain ⟨lB7, cB7, fB7⟩ := B7.out
              unfold Sp.val
              go_wp2
              exact bodyPost_ret (v := .agg #[.int .i64 (-9223372036854775808), .int .i64 9223372036854775807]) (by simp [results, Try.results18, go_sem, *]) rfl ⟨by rw [HM.out], (HW.out.setCell (by simp; omega) _).setCell (by simp; omega) _⟩
          · go_wp2
            go_roundw
            case rel => exact ⟨2, by omega, by go_num, HF.out, OL.out.less (by simp), B0.out, B1.out, B2.out, B4.out, HW.out⟩
            case measure => simp [intOf]
      · simp only [show 2 * 2 = 4 from rfl] at HF OL
        have HM := Lib.hid (mulS_yes HN.out HF.out)
        have HR := Lib.hid (show Spans wr u5 (prL a b 4) from ⟨OL.out.reads (by omega), prL_ok HF.out⟩)
        go_wp2_with fail
        refine (spanJoin HR.out).mono ?_
        rintro e w9 ⟨rfl, hb9⟩
        clear lB0 cB0 fB0 lB1 cB1 fB1 lB2 cB2 fB2 lB4 cB4 fB4
        replace B0 := Lib.hid (B0.out.later hb9)
        replace B1 := Lib.hid (B1.out.later hb9)
        replace B2 := Lib.hid (B2.out.later hb9)
        replace B4 := Lib.hid (B4.out.later hb9)
        replace OL := Lib.hid (OL.out.later hb9)
        replace HW := Lib.hid (HW.out.trans (hb9.mono HW.out.size))
        clear hb9
        obtain ⟨lB0, cB0, fB0⟩ := B0.out
        obtain ⟨lB1, cB1, fB1⟩ := B1.out
        obtain ⟨lB2, cB2, fB2⟩ := B2.out
        obtain ⟨lB4, cB4, fB4⟩ := B4.out
        unfold Sp.val
        go_wp2
        exact bodyPost_ret (v := .agg #[.int .i64 (joinL (prL a b 4)).lo, .int .i64 (joinL (prL a b 4)).hi]) (by simp [results, Try.results18, go_sem, *]) rfl ⟨by rw [HM.out], (HW.out.setCell (by simp; omega) _).setCell (by simp; omega) _⟩
end Go.Proofs.Ytppnmdplojemcaa
