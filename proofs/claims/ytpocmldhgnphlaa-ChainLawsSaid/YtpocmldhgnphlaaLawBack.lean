/- ChainBack: the walk. -/
import Derived.Test.YtpocmldhgnphlaaSame
namespace Go.Proofs.Ytpocmldhgnphlaa
set_option linter.unusedSimpArgs false
set_option linter.unusedVariables false
open Go.RowKit

theorem fn_In {xs : List Int} (h : ∀ x ∈ xs, In64 x) (k : Nat) : In64 (fn xs k) := by
  unfold fn
  rw [List.getD_eq_getElem?_getD]
  by_cases hk : k < xs.length
  · rw [List.getElem?_eq_getElem hk]; exact h _ (List.getElem_mem hk)
  · rw [List.getElem?_eq_none (by omega)]; exact ⟨by simp, by simp⟩

theorem atV_short {xs : List Int} (h : isLong xs = false) (t : Nat) : atV xs (t : Int) = wrap64 (valL xs t) := by
  unfold atV
  rw [h, show (max (t : Int) 0).toNat = t by omega]; rfl

theorem fit_at {xs : List Int} (h : isLong xs = false) (hx : ∀ x ∈ xs, In64 x) {m : Nat} (hm : xs.length ≤ m) : fitL ((List.range m).map fun t : Nat => atV xs t) = trim xs := by
  unfold fitL
  apply trim_ext
  intro k
  simp only [List.length_map, List.length_range]
  rw [getD_range]
  by_cases hk : k < m
  · rw [if_pos hk, dif_zero (a := fn xs) (L := m) (m := m) (Nat.le_refl _) (fun t ht => ?_) hk]
    · exact wrap_in (fn_In hx k)
    · show ((List.range m).map fun t : Nat => atV xs t).getD t 0 = _
      rw [getD_range, if_pos ht, atV_short h]
      unfold valL
      rw [val_more (fn xs) t hm (fun k hk => getD_over hk)]
  · rw [if_neg hk, getD_over (by omega)]

theorem atV_In (xs : List Int) (n : Int) : In64 (atV xs n) := by
  unfold atV; split
  · exact ⟨by omega, by omega⟩
  · exact wrap_In _

set_option maxHeartbeats 3200000 in
theorem walkBack {w : World} {u : Value} {xs : List Int} (hu : Ints w u xs) :
    Calls Try.prog 6 #[u] w fun e w' => e = .returned (.bool true) ∧ Below w.heap.size w w' := by
  go_enter Try.func6, Try.ntmps6
  go_wp2_with fail
  refine (cut 16 (by omega) hu).mono ?_
  rintro e w1 ⟨u1, rfl, hu1, rfl⟩
  have HU := Lib.hid hu1
  have hlen := List.length_take_le 16 xs
  clear hu hu1
  generalize xs.take 16 = ps at *
  obtain ⟨au, cu, rfl⟩ := HU.out.form
  have hlong : isLong ps = false := by unfold isLong; have := trim_le ps; simp; omega
  have HLONG := Lib.hid hlong
  have HFIT := Lib.hid (fun m (h : ps.length ≤ m) => fit_at hlong HU.out.2 h)
  have HO0 := Lib.hid (own_empty w1 3)
  clear hlong
  generalize ps.length = lu at *
  go_wp2
  go_loopw [3, 4] (fun v i wr => ∃ n : Nat, n ≤ 16 ∧ i = .int .i64 n ∧ wr.ownsRow w1.heap.size 3 1 v ((List.range n).map fun t : Nat => atV ps t).length (((List.range n).map fun t : Nat => atV ps t).map (.int .i64)) ∧
      Below w1.heap.size w1 wr) (fun _ i _ => 16 - (intOf i).toNat)
  case atStart => exact ⟨0, by omega, rfl, HO0.out, (Below.refl _ _).alloc (Nat.le_refl _) _⟩
  case round =>
    obtain ⟨n, hn, rfl, hown, hb⟩ := hrel
    have HO := Lib.hid hown
    have HB := Lib.hid hb
    clear hown hb
    by_cases hlt : n < 16
    · go_wp2_with fail
      refine (chainAt (n : Int) (by unfold In64; omega) (HU.out.below HB.out)).mono ?_
      rintro e w2 ⟨rfl, hb2⟩
      have HB2 := Lib.hid (HB.out.trans (hb2.mono HB.out.size))
      have HO2 := Lib.hid (own_below HO.out hb2 (fun k hk => (HO.out.lt k hk).2))
      have HIN := Lib.hid (atV_In ps n)
      clear hb2
      generalize hq : atV ps (n : Int) = q at HIN ⊢
      have HQ := Lib.hid hq
      clear hq
      go_wp2_with (at_builtin; refine wpList_append_ints rfl _ _ 24 3 rfl elInt w1.heap.size (xs := (List.range n).map fun t : Nat => atV ps t) (ys := [q]) rfl rfl (HO2.out.alloc _) ?c1 ?c2 ?c3 ?_)
      case c1 => exact ints_one HIN.out
      case c2 => simp; omega
      case c3 => have := HB2.out.size; simp; omega
      intro v3 w3 hown3 hg3
      have HO3 : Hid (w3.ownsRow w1.heap.size 3 1 v3 ((List.range (n + 1)).map fun t : Nat => atV ps t).length (((List.range (n + 1)).map fun t : Nat => atV ps t).map (.int .i64))) := Lib.hid (by
        have h := hown3
        rw [← HQ.out] at h
        rw [List.range_succ]
        simpa using h)
      have HB3 := Lib.hid ((HB2.out.alloc HB2.out.size _).grown hg3 (by have := HB2.out.size; simp; omega) (fun k hk => (HO2.out.lt k hk).1))
      clear hown3 hg3
      go_wp2
      go_roundw
      case rel => exact ⟨n + 1, by omega, by go_num, HO3.out, HB3.out⟩
      case measure => simp [intOf]; omega
    · obtain rfl : n = 16 := by omega
      have hi : Ints wr u3 ((List.range 16).map fun t : Nat => atV ps t) := Ints.of_own HO.out (by simp) (fun x hx => by
        obtain ⟨j, -, rfl⟩ := List.mem_map.1 hx
        exact atV_In _ _)
      have h16 : ((List.range 16).map fun t : Nat => atV ps t).length = 16 := by simp
      obtain ⟨a3, c3, _, _, hf3, hc3, -, -, -⟩ := hi.parts
      rw [h16] at hf3 hc3
      subst hf3
      have ht := hi.take (k := lu) (by rw [h16]; omega)
      have e2 : ((List.range 16).map fun t : Nat => atV ps t).take lu = (List.range lu).map fun t : Nat => atV ps t := by
        rw [← List.map_take, List.take_range, Nat.min_eq_left hlen]
      rw [e2] at ht
      have HA := Lib.hid hi
      have HT := Lib.hid ht
      have HC := Lib.hid (HU.out.below HB.out)
      have HF1 := Lib.hid (HFIT.out 16 hlen)
      have HF2 := Lib.hid (HFIT.out lu (Nat.le_refl _))
      have HD1 := Lib.hid (show decide (16 < ((List.range 16).map fun t : Nat => atV ps t).length) = false by rw [h16]; rfl)
      have HD2 := Lib.hid (show decide (16 < ((List.range lu).map fun t : Nat => atV ps t).length) = false by simp; omega)
      clear hi ht e2 h16 HO
      generalize (List.range lu).map (fun t : Nat => atV ps t) = l2 at HT HF2 HD2
      generalize ((List.range 16).map fun t : Nat => atV ps t) = l1 at HA HF1 HD1
      go_wp2_with fail
      refine (chainFit HA.out).mono ?_
      rintro e w5 ⟨a5, n5, c5, rfl, hi5, hb5⟩
      rw [HD1.out] at hi5 ⊢
      simp only [longE, HF1.out] at hi5
      simp only [errOf]
      have HB5 := Lib.hid (HB.out.trans (hb5.mono HB.out.size))
      have HT5 := Lib.hid (HT.out.below hb5)
      have HC5 := Lib.hid (HC.out.below hb5)
      have HM5 := Lib.hid hi5
      clear hb5 hi5
      go_wp2_with fail
      refine (chainFit HT5.out).mono ?_
      rintro e w6 ⟨a6, n6, c6, rfl, hi6, hb6⟩
      rw [HD2.out] at hi6 ⊢
      simp only [longE, HF2.out] at hi6
      simp only [errOf]
      have HB6 := Lib.hid (HB5.out.trans (hb6.mono HB5.out.size))
      have HC6 := Lib.hid (HC5.out.below hb6)
      have HM6 := Lib.hid (HM5.out.below hb6)
      have HN6 := Lib.hid hi6
      clear hb6 hi6
      go_wp2_with fail
      refine (awake).mono ?_
      rintro e w7 ⟨rfl, hb7⟩
      have HB7 := Lib.hid (HB6.out.trans (hb7.mono HB6.out.size))
      have HC7 := Lib.hid (HC6.out.below hb7)
      have HM7 := Lib.hid (HM6.out.below hb7)
      have HN7 := Lib.hid (HN6.out.below hb7)
      clear hb7
      go_wp2_with fail
      refine (chainTrim' HC7.out).mono ?_
      rintro e w8 ⟨a8, c8, rfl, hi8, -, hb8⟩
      have HB8 := Lib.hid (HB7.out.trans (hb8.mono HB7.out.size))
      have HC8 := Lib.hid (HC7.out.below hb8)
      have HM8 := Lib.hid (HM7.out.below hb8)
      have HN8 := Lib.hid (HN7.out.below hb8)
      have HK8 := Lib.hid hi8
      clear hb8 hi8
      go_wp2_with fail
      refine (sameB HM8.out HK8.out).mono ?_
      rintro e w9 ⟨rfl, hb9⟩
      have HB9 := Lib.hid (HB8.out.trans (hb9.mono HB8.out.size))
      have HC9 := Lib.hid (HC8.out.below hb9)
      have HM9 := Lib.hid (HM8.out.below hb9)
      have HN9 := Lib.hid (HN8.out.below hb9)
      have HK9 := Lib.hid (HK8.out.below hb9)
      clear hb9
      rw [decide_eq_true (by simp)]
      go_wp2_with fail
      refine (sameB HN9.out HM9.out).mono ?_
      rintro e w10 ⟨rfl, hb10⟩
      have HB10 := Lib.hid (HB9.out.trans (hb10.mono HB9.out.size))
      have HC10 := Lib.hid (HC9.out.below hb10)
      have HM10 := Lib.hid (HM9.out.below hb10)
      have HN10 := Lib.hid (HN9.out.below hb10)
      have HK10 := Lib.hid (HK9.out.below hb10)
      clear hb10
      rw [decide_eq_true (by simp)]
      go_wp2
      go_ret
      exact ⟨rfl, HB10.out⟩
end Go.Proofs.Ytpocmldhgnphlaa
