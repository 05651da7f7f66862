/- Both programs' Sums. -/
import Derived.Test.YtpocmldhgnphlaaSums
namespace Go.Proofs.Ytpocmldhgnphlaa
set_option linter.unusedSimpArgs false
set_option linter.unusedVariables false
open Go.RowKit

def sumE (s : Int) (xs : List Int) : Bool := [xs, s :: trim xs].any isLong

set_option maxHeartbeats 1600000 in
theorem chainSums {w : World} {v : Value} {xs : List Int} {s : Int} (hs : In64 s) (hlen : xs.length ≤ 1000000) (hv : Ints w v xs) :
    Calls Try.prog 17 #[.int .i64 s, v] w fun e w' => ∃ a n c, e = .returned (.tuple #[.slice a n c, .int .i64 (errOf (sumE s xs))]) ∧
      Ints w' (.slice a n c) (longE (sumE s xs) (trim (s :: trim xs))) ∧ Below w.heap.size w w' := by
  obtain ⟨av, cv, rfl⟩ := hv.form
  have HV := Lib.hid hv
  have hl := hv.le
  have hl2 := trim_le xs
  clear hv
  generalize xs.length = lv at *
  go_enter Try.func17, Try.ntmps17
  go_wp2_with fail
  refine (chainTrim' (HV.out.below ((Below.refl _ _).alloc (Nat.le_refl _) _))).mono ?_
  rintro e w1 ⟨a1, c1, rfl, hi1, -, hb1⟩
  have HI1 := Lib.hid hi1
  have HO1 := Lib.hid (own_below (B := w.heap.size + 1) (own_one w 3 s) (hb1.mono (by simp)) (by simp [Value.ownBlock]))
  have HB1 := Lib.hid (((Below.refl w.heap.size w).alloc (Nat.le_refl _) _).trans (hb1.mono (by simp)))
  clear hi1 hb1
  go_wp2_with (at_builtin; refine wpList_append_ints rfl _ _ 24 3 rfl elInt w.heap.size (xs := [s]) (ys := trim xs) rfl rfl HO1.out HI1.out ?c2 ?c3 ?_)
  case c2 => simp; omega
  case c3 => exact HB1.out.size
  intro v2 w2 hown2 hg2
  have hi2 : Ints w2 v2 (s :: trim xs) := Ints.of_own hown2 (by simp; omega) (by
    intro x hx
    rcases List.mem_cons.1 hx with rfl | h
    · exact hs
    · exact HI1.out.2 x h)
  have HI2 := Lib.hid hi2
  have HB2 := Lib.hid (HB1.out.grown hg2 HB1.out.size (by simp [Value.ownBlock]))
  have HV2 := Lib.hid (HV.out.below HB2.out)
  obtain ⟨a2, c2, rfl⟩ := hi2.form
  clear hown2 hg2 hi2
  generalize (s :: trim xs).length = l2 at *
  go_wp2_with fail
  refine (chainLong (lists_two HV2.out HI2.out)).mono ?_
  rintro e w3 ⟨rfl, hb3⟩
  have HB3 := Lib.hid (HB2.out.trans (((Below.refl _ _).alloc HB2.out.size _).trans (hb3.mono (by have := HB2.out.size; simp; omega))))
  have HI3 := Lib.hid (HI2.out.below (((Below.refl _ _).alloc (Nat.le_refl _) _).trans (hb3.mono (by simp))))
  clear hb3
  rw [show [xs, s :: trim xs].any isLong = sumE s xs from rfl]
  cases hany : sumE s xs
  case true =>
    go_wp2
    go_ret2
    exact ⟨_, _, _, ret_two rfl (by rw [hany]; rfl), by rw [hany]; exact Ints.nil, HB3.out⟩
  case false =>
    have HA := Lib.hid hany
    clear hany
    go_wp2_with fail
    refine (chainTrim' HI3.out).mono ?_
    rintro e w4 ⟨a4, c4, rfl, hi4, -, hb4⟩
    have HI4 := Lib.hid hi4
    have HB4 := Lib.hid (HB3.out.trans (hb4.mono HB3.out.size))
    clear hi4 hb4
    go_wp2
    go_ret2
    exact ⟨_, _, _, ret_two rfl (by rw [HA.out]; rfl), by rw [HA.out]; exact HI4.out, HB4.out⟩

/-- The sums' values. -/
def sv (s : Int) (xs : List Int) (t : Nat) : Int := wrap64 (val (xs.length + 1) (fn (s :: xs)) t)
theorem sv_zero {s : Int} (hs : In64 s) (xs : List Int) : sv s xs 0 = s := by unfold sv; rw [val_zero]; exact wrap_in hs
theorem sv_succ (s : Int) (xs : List Int) (t : Nat) : wrap64 (sv s xs t + wrap64 (valL xs t)) = sv s xs (t + 1) := by
  unfold sv
  rw [wrap_add_l, wrap_add_r, val_succ]; rfl

theorem fit_sv {s : Int} (hs : In64 s) {xs : List Int} (hx : ∀ x ∈ xs, In64 x) : fitL ((List.range (xs.length + 2)).map (sv s xs)) = trim (s :: xs) := by
  unfold fitL
  apply trim_ext
  intro k
  simp only [List.length_map, List.length_range]
  rw [getD_range]
  by_cases hk : k < xs.length + 2
  · rw [if_pos hk, dif_zero (a := fn (s :: xs)) (L := xs.length + 2) (m := xs.length + 2) (Nat.le_refl _) (fun t ht => ?_) hk]
    · apply wrap_in
      unfold fn
      rw [List.getD_eq_getElem?_getD]
      by_cases h : k < (s :: xs).length
      · rw [List.getElem?_eq_getElem h]
        rcases List.mem_cons.1 (List.getElem_mem h) with e | e
        · simp only [Option.getD_some]; rw [e]; exact hs
        · exact hx _ e
      · rw [List.getElem?_eq_none (by omega)]; exact ⟨by simp, by simp⟩
    · show ((List.range (xs.length + 2)).map (sv s xs)).getD t 0 = _
      rw [getD_range, if_pos ht]
      unfold sv
      rw [val_more (fn (s :: xs)) t (show xs.length + 1 ≤ xs.length + 2 by omega) (fun k hk => getD_over (by simpa using hk))]
  · rw [if_neg hk, getD_over (by simp; omega)]

set_option maxHeartbeats 1600000 in
theorem refSums {w : World} {v : Value} {xs : List Int} {s : Int} (hs : In64 s) (hlen : xs.length ≤ 900) (hv : Ints w v xs) :
    Calls Try.prog 18 #[.int .i64 s, v] w fun e w' => ∃ u, e = .returned u ∧ Ints w' u (trim (s :: xs)) ∧ Below w.heap.size w w' := by
  obtain ⟨av, cv, rfl⟩ := hv.form
  have HV := Lib.hid hv
  have HF := Lib.hid (fit_sv hs hv.2)
  have HS := Lib.hid (fun t => sv_succ s xs t)
  have H0 := Lib.hid (sv_zero hs xs)
  clear hv
  generalize H1 : xs.length = lv at *
  have G1 := Lib.hid H1
  clear H1
  have HO0 : Hid ((w.alloc (.cells #[.int .i64 s] 3)).ownsRow w.heap.size 3 1 (.slice (some ⟨w.heap.size, 0, none⟩) 1 1) 1 (((List.range 1).map (sv s xs)).map (.int .i64))) := Lib.hid (by
    rw [show (List.range 1).map (sv s xs) = [sv s xs 0] from rfl, H0.out]; exact own_one w 3 s)
  go_enter Try.func18, Try.ntmps18
  go_wp2
  go_loopw [5, 6] (fun v i wr => ∃ n : Nat, n ≤ lv + 1 ∧ i = .int .i64 n ∧ (∃ g c, v = .slice (some ⟨g, 0, none⟩) (n + 1) c ∧ g < wr.heap.size ∧ wr.ownsRow w.heap.size 3 1 (.slice (some ⟨g, 0, none⟩) (n + 1) c) (n + 1) (((List.range (n + 1)).map (sv s xs)).map (.int .i64))) ∧
      Below w.heap.size w wr) (fun _ i _ => lv + 1 - (intOf i).toNat)
  case atStart => exact ⟨0, by omega, rfl, ⟨_, _, rfl, by simp, HO0.out⟩, (Below.refl _ _).alloc (Nat.le_refl _) _⟩
  case round =>
    obtain ⟨n, hn, rfl, ⟨g, c, rfl, hgs, hown⟩, hb⟩ := hrel
    have HB := Lib.hid hb
    have HVR := Lib.hid (HV.out.below hb)
    by_cases hlt : n < lv + 1
    · have hcell : wr.cell? ⟨g, n, none⟩ = some (.int .i64 (sv s xs n)) := by
        rw [(Blk.of_own hown).1.cell (by simp)]
        simp
      have HO : Hid (wr.ownsRow w.heap.size 3 1 (.slice (some ⟨g, 0, none⟩) (n + 1) c) ((List.range (n + 1)).map (sv s xs)).length (((List.range (n + 1)).map (sv s xs)).map (.int .i64))) := Lib.hid (by simpa using hown)
      have hgw : w.heap.size ≤ g := (hown.lt g rfl).1
      have HSN := HS.out n
      have HSN2 := Lib.hid HSN
      clear hown hb HSN
      generalize sv s xs n = y at hcell HSN2
      have i1 : (0 : Int) ≤ (n : Int) := by omega
      have i3 : (n : Int) < (n : Int) + 1 := by omega
      go_wp2
      go_region_held3 (fun w' => w'.cell? ⟨g, n, none⟩ = some (.int .i64 y))
        (first
          | go_keep
          | (rw [hkeep9 g n rfl (by simp)]; assumption)
          | (rw [hb9.cell (by simpa using hgs)]; assumption))
        ((first
          | (go_at_call 28; refine (refAt n rfl (by omega) (by rw [G1.out]; omega) (by first | exact HVR.out | exact HVR.out.below (Below.refl _ _).drew)).mono ?_; rintro e w9 ⟨rfl, hb9⟩)
          | (refine step_append_int (by rfl) _ _ 24 3 (by rfl) elInt w.heap.size (xs := (List.range (n + 1)).map (sv s xs)) (by rfl) (by rfl) ((own_below HO.out.drew hb9 (by simp [Value.ownBlock]; exact hgs)).alloc _) (heap_alloc_new w9 _) (by decide) (by simp; omega) (by have q1 := hb9.size; have q2 := HB.out.size; simp at q1 ⊢; omega) (w9.heap.size + 1) (by simp) ?_; intro g9 c9 w10 hown9 hg9 hat9 hlt9 hkeep9)))
      have HO9 : Hid (w10.ownsRow w.heap.size 3 1 (.slice (some ⟨g9, 0, none⟩) (n + 1 + 1) c9) (n + 1 + 1) (((List.range (n + 1 + 1)).map (sv s xs)).map (.int .i64))) := Lib.hid (by
        have h := hown9
        rw [i64_wrap, HSN2.out, show (List.range (n + 1)).map (sv s xs) ++ [sv s xs (n + 1)] = (List.range (n + 1 + 1)).map (sv s xs) by rw [List.range_succ (n := n + 1)]; simp] at h
        simpa using h)
      have HB9 := Lib.hid ((((HB.out.drew.trans (hb9.mono (by have := HB.out.size; simpa using this))).alloc (by have q1 := hb9.size; have q2 := HB.out.size; simp at q1; omega) _).grown hg9 (by have q1 := hb9.size; have q2 := HB.out.size; simp at q1 ⊢; omega) (by simp [Value.ownBlock]; exact hgw)))
      clear hown9 hg9 hat9 hb9 hkeep9 i1 i3 hcell hgs
      simp only [List.length_map, List.length_range]
      go_wp2
      go_roundw
      case rel => exact ⟨n + 1, by omega, by go_num, ⟨g9, c9, rfl, hlt9, HO9.out⟩, HB9.out⟩
      case measure => simp [intOf]; omega
    · obtain rfl : n = lv + 1 := by omega
      have HI : Hid (Ints wr (.slice (some ⟨g, 0, none⟩) (lv + 1 + 1) c) ((List.range (lv + 2)).map (sv s xs))) := Lib.hid (Ints.of_own (base := w.heap.size) (e := 3) (by simpa using hown) (by simp; omega) (fun x hx => by
        obtain ⟨j, -, rfl⟩ := List.mem_map.1 hx
        exact wrap_In _))
      clear hown hb
      go_wp2_with fail
      refine (refFit HI.out).mono ?_
      rintro e w2 ⟨u2, rfl, hi2, hb2⟩
      rw [HF.out] at hi2
      have HI2 := Lib.hid hi2
      have HB2 := Lib.hid (HB.out.trans (hb2.mono HB.out.size))
      clear hi2 hb2
      go_wp2
      go_ret
      exact ⟨_, rfl, HI2.out, HB2.out⟩
end Go.Proofs.Ytpocmldhgnphlaa
