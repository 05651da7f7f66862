/- ChainEnds: the walk. -/
import Derived.Test.YtpocmldhgnphlaaLawSwaps
namespace Go.Proofs.Ytpocmldhgnphlaa
set_option linter.unusedSimpArgs false
set_option linter.unusedVariables false
open Go.RowKit

/-- Sixteen numbers of c, the last 1. -/
def LG (c : List Int) : List Int := (List.range 16).map (upd (fn c) 15 1)
theorem LG_eq (c : List Int) : LG c = (List.range 15).map (upd (fn c) 15 1) ++ [1] := by
  unfold LG
  rw [List.range_succ (n := 15), List.map_append]; rfl
theorem LG_len (c : List Int) : (LG c).length = 16 := by simp [LG]
theorem LG_trim (c : List Int) : trim (LG c) = LG c := by rw [LG_eq, trim_snoc, if_neg (by omega)]
theorem LG_short (c : List Int) : isLong (LG c) = false := by unfold isLong; rw [LG_trim, LG_len]; rfl
theorem LG_fn (c : List Int) : fn (LG c) 15 = 1 := by
  unfold fn LG; rw [getD_range, if_pos (by omega), upd_same]
theorem LG_over (c : List Int) {k : Nat} (h : 16 ≤ k) : fn (LG c) k = 0 := getD_over (by rw [LG_len]; exact h)
theorem LG_sum (c : List Int) : sumE 0 (LG c) = true := by
  have : isLong (0 :: trim (LG c)) = true := by
    unfold isLong
    rw [LG_trim, LG_eq, ← List.cons_append, trim_snoc, if_neg (by omega)]
    simp
  simp [sumE, this]
theorem LG_add (c : List Int) : [LG c, LG c ++ [5]].any isLong = true := by
  have : isLong (LG c ++ [5]) = true := by
    unfold isLong
    rw [trim_snoc, if_neg (by omega)]
    simp [LG_len]
  simp [this]
theorem trim_more {xs : List Int} {k : Nat} (h : xs.getD k 0 ≠ 0) : k < (trim xs).length := by
  rcases Nat.lt_or_ge k (trim xs).length with h1 | h1
  · exact h1
  · rw [← trim_getD, getD_over h1] at h; exact absurd rfl h
theorem LG_mul (c : List Int) : mulE (LG c) [0, 1] = true := by
  have h2 : trim [0, 1] = [0, 1] := by decide
  have h : isLong (mulOut (LG c) [0, 1]) = true := by
    have : 16 < (trim (mulOut (LG c) [0, 1])).length := by
      apply trim_more
      unfold mulOut
      rw [getD_range, LG_trim, LG_len, h2, if_pos (by simp)]
      have e : mulF 16 2 (fn (LG c)) (fn [0, 1]) 16 = 16 := by
        unfold mulF
        rw [sumN, sumN_zero]
        · simp only [sumN]
          rw [mulc_over (show 15 + 0 < 16 by omega), LG_fn]
          have : mulc 15 1 16 = 16 := by decide +kernel
          rw [this]; simp [fn]
        · intro i hi
          simp only [sumN]
          rw [mulc_over (show i + 0 < 16 by omega), mulc_over (show i + 1 < 16 by omega)]; simp
      simp only [List.length_cons, List.length_nil] at e ⊢
      rw [e, wrap_in ⟨by omega, by omega⟩]; omega
    simpa [isLong] using this
  unfold mulE; rw [h]; simp
theorem mul_unit {a : List Int} (ka : Chain64 a) : trim (mulOut a [1]) = trim a :=
  chain_ext (mulOut_64 _ _) ka fun n => by
    rw [mulOut_val]
    have : valL [1] n = 1 := by simp [valL, val, sumN, fn]
    rw [this, Int.mul_one]
theorem LG_64 {c : List Int} (hc : Chain64 c) : Chain64 (LG c) := by
  intro x hx
  obtain ⟨j, -, rfl⟩ := List.mem_map.1 hx
  unfold upd; split
  · exact ⟨by omega, by omega⟩
  · exact fn_In hc j
theorem LG_one {c : List Int} (hc : Chain64 c) : mulE (LG c) [1] = false := by
  have h1 : trim [1] = [1] := by decide
  have h2 : isLong [1] = false := by unfold isLong; rw [h1]; rfl
  rw [mulE_of (by simp [LG_short c, h2])]
  unfold isLong
  rw [mul_unit (LG_64 hc), LG_trim, LG_len]; rfl
theorem trim_zeros (n : Nat) : trim ((List.range n).map fun _ => (0 : Int)) = [] := by
  rw [show ([] : List Int) = trim [] from rfl]
  exact trim_ext fun k => by rw [getD_range]; split <;> rfl
theorem addL_zeros (n : Nat) : addL [(List.range n).map fun _ => (0 : Int), (List.range n).map fun _ => 0] = [] := by
  have e : ∀ k, fn ((List.range n).map fun _ => (0 : Int)) k = 0 := fun k => by unfold fn; rw [getD_range]; split <;> rfl
  unfold addL colS
  rw [show ([] : List Int) = trim [] from rfl]
  exact trim_ext fun k => by
    rw [getD_range]
    split
    · simp [sumN, e, wrap_zero]
    · rfl

theorem sumsBad {w : World} {v : Value} {xs : List Int} {s : Int} (h : sumE s xs = true) (hs : In64 s) (hlen : xs.length ≤ 1000000) (hv : Ints w v xs) :
    Calls Try.prog 17 #[.int .i64 s, v] w fun e w' => ∃ a n c, e = .returned (.tuple #[.slice a n c, .int .i64 1]) ∧ Below w.heap.size w w' := by
  refine (chainSums hs hlen hv).mono fun e w' ⟨a, n, c, he, hi, hb⟩ => ⟨a, n, c, ?_, hb⟩
  rw [he, h]; rfl
theorem mulBad {w : World} {u v : Value} {xs ys : List Int} (h : mulE xs ys = true) (hu : Ints w u xs) (hv : Ints w v ys) :
    Calls Try.prog 24 #[u, v] w fun e w' => ∃ a n c, e = .returned (.tuple #[.slice a n c, .int .i64 1]) ∧ Below w.heap.size w w' := by
  refine (chainMul hu hv).mono fun e w' ⟨a, n, c, he, hi, hb⟩ => ⟨a, n, c, ?_, hb⟩
  rw [he, h]; rfl
theorem addBad {w : World} {v : Value} {xss : List (List Int)} (h : xss.any isLong = true) (hv : Lists w v xss) :
    Calls Try.prog 12 #[v] w fun e w' => ∃ a n c, e = .returned (.tuple #[.slice a n c, .int .i64 1]) ∧ Below w.heap.size w w' := by
  refine (chainAdd hv).mono fun e w' ⟨a, n, c, he, hi, hb⟩ => ⟨a, n, c, ?_, hb⟩
  rw [he, h]; rfl
theorem mulGood {w : World} {u v : Value} {xs ys : List Int} (h : mulE xs ys = false) (hu : Ints w u xs) (hv : Ints w v ys) :
    Calls Try.prog 24 #[u, v] w fun e w' => ∃ a n c, e = .returned (.tuple #[.slice a n c, .int .i64 0]) ∧ Ints w' (.slice a n c) (trim (mulOut xs ys)) ∧ Below w.heap.size w w' := by
  refine (chainMul hu hv).mono fun e w' ⟨a, n, c, he, hi, hb⟩ => ⟨a, n, c, ?_, ?_, hb⟩
  · rw [he, h]; rfl
  · rw [h] at hi; exact hi

theorem Row_keep {w0 w w' : World} {v : Value} {xs : List Int} (h0 : Ints w0 v xs) (h : Ints w v xs) (hb : Below w0.heap.size w w') : Ints w' v xs := by
  obtain ⟨⟨k1, k2, a, cap, rfl, k3, k4, k5, k6⟩, k7⟩ := h0
  obtain ⟨⟨l1, l2, a', cap', he, l3, l4, l5, l6⟩, l7⟩ := h
  cases he
  refine ⟨⟨k1, k2, a, cap, rfl, k3, k4, k5, fun ad ha j u hj => ?_⟩, k7⟩
  have h1 := k6 ad ha j u hj
  rw [hb.cell (World.block_lt_of_cell? w0 _ h1)]
  exact l6 ad ha j u hj

set_option maxRecDepth 100000 in
set_option maxHeartbeats 6400000 in
theorem walkEnds {w : World} {u : Value} {xs : List Int} {n : Int} (hu : Ints w u xs) (hn : 0 ≤ n ∧ n ≤ 255) :
    Calls Try.prog 9 #[u, .int .u8 n] w fun e w' => e = .returned (.bool true) ∧ Below w.heap.size w w' := by
  obtain ⟨hn1, hn2⟩ := hn
  have hl := hu.le
  have H64 := Lib.hid hu.2
  obtain ⟨a, c, b, o, rfl, hc, hm, ha, hx⟩ := hu.parts
  have HA := Lib.hid ha
  have HX := Lib.hid hx
  clear hu ha hx
  have HIN := Lib.hid (fun t => fn_In H64.out t)
  have HOV := Lib.hid (fun t (h : xs.length ≤ t) => show fn xs t = 0 from getD_over h)
  have HF := Lib.hid (fun j => show xs.getD j 0 = fn xs j from rfl)
  have HO0 := Lib.hid (own_empty w 3)
  generalize xs.length = m at *
  go_enter Try.func9, Try.ntmps9
  go_wp2
  go_loopw [5, 6] (fun v i wr => ∃ k : Nat, k ≤ 16 ∧ i = .int .i64 k ∧ wr.ownsRow w.heap.size 3 1 v ((List.range k).map (fn xs)).length (((List.range k).map (fn xs)).map (.int .i64)) ∧ Below w.heap.size w wr) (fun _ i _ => 16 - (intOf i).toNat)
  case atStart => exact ⟨0, by omega, rfl, HO0.out, (Below.refl _ _).alloc (Nat.le_refl _) _⟩
  case round =>
    obtain ⟨k, hk, rfl, hown, hb⟩ := hrel
    have HO := Lib.hid hown
    have HB := Lib.hid hb
    clear hown
    by_cases hlt : k < 16
    · have HV := Lib.hid (HIN.out k)
      have HNEXT := Lib.hid (show (List.range (k + 1)).map (fn xs) = (List.range k).map (fn xs) ++ [fn xs k] by simp [List.range_succ])
      by_cases hin : k < m
      · obtain ⟨rfl, hbw⟩ := HA.out (by omega)
        have hcell : wr.cell? ⟨b, o + k, none⟩ = some (.int .i64 (xs.getD k 0)) := (hb.cell hbw).trans (HX.out k hin)
        rw [HF.out] at hcell
        generalize fn xs k = y at hcell HV HNEXT
        clear hb
        go_wp2_with (at_builtin; refine wpList_append_ints rfl _ _ 24 3 rfl elInt w.heap.size (xs := (List.range k).map (fn xs)) (ys := [y]) rfl rfl (HO.out.alloc _) ?c1 ?c2 ?c3 ?_)
        case c1 => exact ints_one HV.out
        case c2 => first | omega | (simp; omega)
        case c3 => have := HB.out.size; simp; omega
        intro v3 w3 hown3 hg3
        have HO3 : Hid (w3.ownsRow w.heap.size 3 1 v3 ((List.range (k + 1)).map (fn xs)).length (((List.range (k + 1)).map (fn xs)).map (.int .i64))) := Lib.hid (by
          rw [HNEXT.out]
          simpa using hown3)
        have HB3 := Lib.hid ((HB.out.alloc HB.out.size _).grown hg3 (by have := HB.out.size; simp; omega) (fun k hk => (HO.out.lt k hk).1))
        clear hown3 hg3
        go_wp2
        go_roundw
        case rel => exact ⟨k + 1, by omega, by go_num, HO3.out, HB3.out⟩
        case measure => simp [intOf]; omega
      · have HZ := Lib.hid (HOV.out k (by omega))
        rw [HZ.out] at HNEXT HV
        clear hb
        go_wp2_with (at_builtin; refine wpList_append_ints rfl _ _ 24 3 rfl elInt w.heap.size (xs := (List.range k).map (fn xs)) (ys := [0]) rfl rfl (HO.out.alloc _) ?c1 ?c2 ?c3 ?_)
        case c1 => exact ints_one HV.out
        case c2 => first | omega | (simp; omega)
        case c3 => have := HB.out.size; simp; omega
        intro v3 w3 hown3 hg3
        have HO3 : Hid (w3.ownsRow w.heap.size 3 1 v3 ((List.range (k + 1)).map (fn xs)).length (((List.range (k + 1)).map (fn xs)).map (.int .i64))) := Lib.hid (by
          rw [HNEXT.out]
          simpa using hown3)
        have HB3 := Lib.hid ((HB.out.alloc HB.out.size _).grown hg3 (by have := HB.out.size; simp; omega) (fun k hk => (HO.out.lt k hk).1))
        clear hown3 hg3
        go_wp2
        go_roundw
        case rel => exact ⟨k + 1, by omega, by go_num, HO3.out, HB3.out⟩
        case measure => simp [intOf]; omega
    · obtain rfl : k = 16 := by omega
      have hown := HO.out
      rw [show ((List.range 16).map (fn xs)).length = 16 by simp, ← nums_eq] at hown
      rcases own_form hown with ⟨-, h0, -⟩ | ⟨g, cap, rfl, hg1, hnc, hcm, hblk⟩
      · omega
      have c1 := hblk.num (j := 15) (by omega)
      have c2 := hblk.free 15
      have HBL := Lib.hid (hblk.put 15 1)
      have HBS := Lib.hid (HB.out.setCell (p := ⟨g, 15, none⟩) hg1 (.int .i64 1))
      have HG : Hid (Ints (wr.setCell ⟨g, 15, none⟩ (.int .i64 1)) (.slice (some ⟨g, 0, none⟩) 16 cap) (LG xs)) := Lib.hid (HBL.out.ints hnc hcm (by omega) (fun j _ => by
        unfold upd; split
        · exact ⟨by omega, by omega⟩
        · exact HIN.out j))
      have ES := Lib.hid (LG_sum xs)
      have EM := Lib.hid (LG_mul xs)
      have EA := Lib.hid (LG_add xs)
      have EO := Lib.hid (LG_one H64.out)
      have EU := Lib.hid (show trim (mulOut (LG xs) [1]) = LG xs by rw [mul_unit (LG_64 H64.out), LG_trim])
      have EL := Lib.hid (LG_len xs)
      have hcap : cap ≤ 9223372036854775807 := by unfold maxLen at hcm; omega
      clear hown hblk hb hcm
      generalize LG xs = L at *
      go_wp2_with fail
      refine (sumsBad ES.out (by unfold In64; omega) (by rw [EL.out]; omega) HG.out).mono ?_
      rintro e w2 ⟨a2, n2, c2, rfl, hb2⟩
      have HB2 := Lib.hid (HBS.out.trans (hb2.mono HBS.out.size))
      have HG2 := Lib.hid (HG.out.below hb2)
      clear hb2
      go_wp2_with fail
      refine (mulBad EM.out (HG2.out.alloc _) (ints_lit (e := 3) [0, 1] #[.int .i64 0, .int .i64 1] rfl 2 rfl (by omega) (by simp [In64]))).mono ?_
      rintro e w3 ⟨a3, n3, c3, rfl, hb3⟩
      replace hb3 := below_alloc hb3
      have HB3 := Lib.hid (HB2.out.trans (hb3.mono HB2.out.size))
      have HG3 := Lib.hid (HG2.out.below hb3)
      clear hb3
      have HE0 := Lib.hid (own_empty w3 3)
      go_wp2_with (at_builtin; refine wpList_append_ints rfl _ _ 24 3 rfl elInt w3.heap.size (xs := []) (ys := L) rfl rfl HE0.out ?c1 ?c2 ?c3 ?_)
      case c1 => exact HG3.out.alloc _
      case c2 => rw [EL.out]; simp
      case c3 => simp
      intro v7 w7 hown7 hg7
      have HO7 : Hid (w7.ownsRow w3.heap.size 3 1 v7 L.length (L.map (.int .i64))) := Lib.hid (by simpa using hown7)
      have hb7 : Below w3.heap.size w3 w7 := ((Below.refl _ _).alloc (Nat.le_refl _) _).grown hg7 (by simp) (by simp [Value.ownBlock])
      have HB7 := Lib.hid (HB3.out.trans (hb7.mono HB3.out.size))
      have HG7 := Lib.hid (HG3.out.below hb7)
      have hs7 := hb7.size
      clear hown7 hg7 hb7
      go_wp2_with (at_builtin; refine wpList_append_ints rfl _ _ 24 3 rfl elInt w3.heap.size (xs := L) (ys := [5]) rfl rfl (HO7.out.alloc _) ?c1 ?c2 ?c3 ?_)
      case c1 => exact ints_one (by unfold In64; omega)
      case c2 => rw [EL.out]; simp
      case c3 => simp; omega
      intro v8 w8 hown8 hg8
      have hi8 : Ints w8 v8 (L ++ [5]) := Ints.of_own (base := w3.heap.size) (e := 3) (by simpa using hown8) (by simp [EL.out]) (fun x hx => by
        rcases List.mem_append.1 hx with h | h
        · exact HG7.out.2 x h
        · rcases List.mem_cons.1 h with rfl | h
          · unfold In64; omega
          · cases h)
      have hb8 : Below w3.heap.size w7 w8 := ((Below.refl _ _).alloc hs7 _).grown hg8 (by simp; omega) (fun k hk => (HO7.out.lt k hk).1)
      have HB8 := Lib.hid (HB7.out.trans (hb8.mono HB3.out.size))
      have HG8 := Lib.hid (Row_keep HG3.out HG7.out hb8)
      have HI8 := Lib.hid hi8
      obtain ⟨a8, c8, rfl⟩ := hi8.form
      have hl8 : (L ++ [(5 : Int)]).length = 17 := by simp [EL.out]
      rw [hl8] at HI8 ⊢
      clear hown8 hg8 hb8 hi8
      go_wp2_with fail
      refine (addBad EA.out (lists_two HG8.out HI8.out)).mono ?_
      rintro e w9 ⟨a9, n9, c9, rfl, hb9⟩
      replace hb9 := below_alloc hb9
      have HB9 := Lib.hid (HB8.out.trans (hb9.mono HB8.out.size))
      have HG9 := Lib.hid (HG8.out.below hb9)
      clear hb9
      obtain ⟨N, rfl⟩ : ∃ N : Nat, n = N := ⟨n.toNat, by omega⟩
      go_wp2_with (at_make; refine wpList_make_ints rfl _ _ 24 3 rfl elInt N rfl rfl (by omega) (by omega) (by omega) ?_)
      intro w10 hblk10 hb10
      have HZ10 := Lib.hid (hblk10.ints (cap := N) (Nat.le_refl _) (by unfold maxLen; omega) (by omega) (fun j _ => show In64 0 by unfold In64; omega))
      have HB10 := Lib.hid (HB9.out.trans (hb10.mono HB9.out.size))
      have HG10 := Lib.hid (HG9.out.below hb10)
      have EZ1 := Lib.hid (show [(List.range N).map fun _ => (0 : Int), (List.range N).map fun _ => 0].any isLong = false by simp [isLong, trim_zeros])
      have EZ2 := Lib.hid (addL_zeros N)
      clear hblk10 hb10
      go_wp2_with fail
      refine (addOk EZ1.out (lists_two HZ10.out HZ10.out)).mono ?_
      rintro e w11 ⟨a11, n11, c11, rfl, hi11, hb11⟩
      replace hb11 := below_alloc hb11
      rw [EZ2.out] at hi11
      have HB11 := Lib.hid (HB10.out.trans (hb11.mono HB10.out.size))
      have HG11 := Lib.hid (HG10.out.below hb11)
      have HY11 := Lib.hid hi11
      clear hb11 hi11
      obtain ⟨_, _, hf11⟩ := HY11.out.form
      simp only [Value.slice.injEq] at hf11
      obtain ⟨-, rfl, -⟩ := hf11
      go_wp2_with fail
      refine (mulGood EO.out (HG11.out.alloc _) (ints_lit (e := 3) [1] #[.int .i64 1] rfl 1 rfl (by omega) (by simp [In64]))).mono ?_
      rintro e w12 ⟨a12, n12, c12, rfl, hi12, hb12⟩
      replace hb12 := below_alloc hb12
      rw [EU.out] at hi12
      have HB12 := Lib.hid (HB11.out.trans (hb12.mono HB11.out.size))
      have HG12 := Lib.hid (HG11.out.below hb12)
      have HY12 := Lib.hid (HY11.out.below hb12)
      have HW12 := Lib.hid hi12
      clear hb12 hi12
      go_wp2_with fail
      refine (awake).mono ?_
      rintro e w13 ⟨rfl, hb13⟩
      have HB13 := Lib.hid (HB12.out.trans (hb13.mono HB12.out.size))
      have HG13 := Lib.hid (HG12.out.below hb13)
      have HY13 := Lib.hid (HY12.out.below hb13)
      have HW13 := Lib.hid (HW12.out.below hb13)
      clear hb13
      go_wp2_with fail
      refine (sameB HW13.out HG13.out).mono ?_
      rintro e w14 ⟨rfl, hb14⟩
      have HB14 := Lib.hid (HB13.out.trans (hb14.mono HB13.out.size))
      have HG14 := Lib.hid (HG13.out.below hb14)
      have HY14 := Lib.hid (HY13.out.below hb14)
      have HW14 := Lib.hid (HW13.out.below hb14)
      clear hb14
      rw [decide_eq_true (by simp)]
      go_wp2
      go_ret
      exact ⟨rfl, HB14.out⟩
end Go.Proofs.Ytpocmldhgnphlaa
