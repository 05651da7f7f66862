/- The reference's values of a chain, and both programs' chain of values. -/
import Derived.Test.YtpocmldhgnphlaaRow
import Derived.Deep.RegionHeld3
namespace Go.Proofs.Ytpocmldhgnphlaa
set_option linter.unusedSimpArgs false
set_option linter.unusedVariables false
open Go.RowKit

/-- The chain whose first values these are. -/
def fitL (xs : List Int) : List Int := trim ((List.range xs.length).map fun r => dif (fn xs) r 0)

set_option maxHeartbeats 1600000 in
theorem refAt {w : World} {v : Value} {xs : List Int} {n : Int} (N : Nat) (hN : n = N) (hbig : N ≤ 1000000) (hlen : xs.length ≤ 1000) (hv : Ints w v xs) :
    Calls Try.prog 28 #[v, .int .i64 n] w fun e w' => e = .returned (.int .i64 (wrap64 (valL xs N))) ∧ Below w.heap.size w w' := by
  subst hN
  obtain ⟨a, c, b, o, rfl, hc, hm, ha, hx⟩ := hv.parts
  have HA := Lib.hid ha
  have HX := Lib.hid hx
  have HF := Lib.hid (fun j => show xs.getD j 0 = fn xs j from rfl)
  have HR := Lib.hid (show valL xs N = val xs.length (fn xs) N from rfl)
  clear hv ha hx
  generalize H1 : xs.length = m at *
  clear H1
  go_enter Try.func28, Try.ntmps28
  go_wp2_with fail
  refine (row N m rfl rfl hlen (by omega)).mono ?_
  rintro e w1 ⟨b1, rfl, hfresh, hblk, hb1⟩
  have HB1 := Lib.hid hb1
  have HBL := Lib.hid hblk
  clear hb1 hblk
  go_wp2
  go_loopw [6, 7] (fun v i wr => ∃ k : Nat, k ≤ m ∧ i = .int .i64 k ∧ v = .int .i64 (wrap64 (val k (fn xs) N)) ∧ ∃ nd, wr = w1.drewN nd) (fun _ i _ => m - (intOf i).toNat)
  case atStart => exact ⟨0, by omega, rfl, by simp [val, sumN, wrap_zero], 0, rfl⟩
  case round =>
    obtain ⟨k, hk, rfl, rfl, nd, rfl⟩ := hrel
    by_cases hlt : k < m
    · obtain ⟨rfl, hbw⟩ := HA.out (by omega)
      have c1 : w1.cell? ⟨b, o + k, none⟩ = some (.int .i64 (xs.getD k 0)) := (HB1.out.cell hbw).trans (HX.out k hlt)
      rw [HF.out] at c1
      have c2 := HBL.out.num (j := k) (by omega)
      go_wp2
      go_quiet (fail)
      go_wp2
      go_roundw
      case rel => exact ⟨k + 1, by omega, by go_num, by rw [acc_step], _, rfl⟩
      case measure => simp [intOf]; omega
    · obtain rfl : k = m := by omega
      go_wp2
      go_ret
      exact ⟨ret_int (by rw [HR.out]), HB1.out.trans ⟨rfl, rfl, rfl, Nat.le_refl _, fun _ _ => rfl⟩⟩

theorem dif_In {f : Nat → Int} (h : ∀ t, In64 (f t)) (r t : Nat) : In64 (dif f r t) := by
  cases r with
  | zero => exact h t
  | succ r => exact wrap_In _

def fitR (xs : List Int) (r : Nat) : List Int := (List.range r).map fun r => dif (fn xs) r 0
theorem fitR_succ (xs : List Int) (r : Nat) : fitR xs r ++ [dif (fn xs) r 0] = fitR xs (r + 1) := by simp [fitR, List.range_succ]
theorem fitR_len (xs : List Int) (r : Nat) : (fitR xs r).length = r := by simp [fitR]
theorem fitR_In {xs : List Int} (h : ∀ t, In64 (fn xs t)) (r : Nat) : ∀ x ∈ fitR xs r, In64 x := by
  intro x hx
  obtain ⟨j, -, rfl⟩ := List.mem_map.1 hx
  exact dif_In h _ _

set_option maxHeartbeats 3200000 in
theorem refFit {w : World} {v : Value} {xs : List Int} (hv : Ints w v xs) :
    Calls Try.prog 21 #[v] w fun e w' => ∃ u, e = .returned u ∧ Ints w' u (fitL xs) ∧ Below w.heap.size w w' := by
  have hl := hv.le
  have HV := Lib.hid hv
  have HIN := Lib.hid (fun t => show In64 (fn xs t) from hv.getD t)
  clear hv
  have HE : Hid (((w.alloc (.cells #[] 3)).alloc (.cells #[] 3)).ownsRow (w.heap.size + 1) 3 1 (.slice (some ⟨w.heap.size + 1, 0, none⟩) 0 0) 0 []) := Lib.hid (by simpa using own_empty (w.alloc (.cells #[] 3)) 3)
  have HO : Hid (((w.alloc (.cells #[] 3)).alloc (.cells #[] 3)).ownsRow w.heap.size 3 1 (.slice (some ⟨w.heap.size, 0, none⟩) 0 0) 0 []) := Lib.hid ((own_empty w 3).alloc _)
  have HB0 : Hid (Below w.heap.size w ((w.alloc (.cells #[] 3)).alloc (.cells #[] 3))) := Lib.hid (((Below.refl _ _).alloc (Nat.le_refl _) _).alloc (by simp) _)
  have hs0 : ((w.alloc (.cells #[] 3)).alloc (.cells #[] 3)).heap.size = w.heap.size + 1 + 1 := by simp
  have HS0 := Lib.hid hs0
  clear hs0
  go_enter Try.func21, Try.ntmps21
  go_wp2_with (at_builtin; refine wpList_append_ints rfl _ _ 24 3 rfl elInt (w.heap.size + 1) (xs := []) (ys := xs) rfl rfl HE.out ?c1 ?c2 ?c3 ?_)
  case c1 => exact HV.out.below HB0.out
  case c2 => simp; omega
  case c3 => simp
  intro v1 w1 hown hg
  have HB1 := Lib.hid (HB0.out.grown hg (by rw [HS0.out]; omega) (by simp [Value.ownBlock]))
  have HO1 := Lib.hid (HO.out.kept hg (.inr (by simp [Value.ownBlock])))
  have hsz : w.heap.size + 1 + 1 ≤ w1.heap.size := by have := hg.size; rw [HS0.out] at this; exact this
  have hi1 : Ints w1 v1 xs := Ints.of_own hown hl HV.out.2
  rcases own_form hown with ⟨rfl, hn0, -⟩ | ⟨g, cap, rfl, hg1, hnc, hcm, hblk⟩
  · have HX := Lib.hid (show fitL xs = [] by rw [List.eq_nil_of_length_eq_zero hn0]; rfl)
    clear hown hg hi1
    go_wp2
    refine wp_loop_rounds 1 ?_
    rw [rounds_succ]
    go_wp2_with fail
    refine (refTrim (xs := []) (Ints.of_own (base := w.heap.size) (e := 3) HO1.out (by simp) (by simp))).mono ?_
    rintro e w2 ⟨u2, rfl, hi2, hb2⟩
    have HI2 := Lib.hid hi2
    have HB2 := Lib.hid (HB1.out.trans (hb2.mono HB1.out.size))
    clear hi2 hb2
    go_wp2
    go_ret
    exact ⟨_, rfl, by rw [HX.out]; exact HI2.out, HB2.out⟩
  · rw [ints_nums] at hblk
    have HBL := Lib.hid hblk
    have HR := Lib.hid (show fitL xs = trim (fitR xs xs.length) from rfl)
    clear hown hg hi1 hblk
    generalize H1 : xs.length = n at *
    have G1 := Lib.hid H1
    clear H1
    go_wp2
    go_loopw [3, 4] (fun v3 v4 wr => ∃ r : Nat, r ≤ n ∧ v4 = .slice (some ⟨g, 0, none⟩) (n - r) cap ∧ wr.ownsRow w.heap.size 3 1 v3 (fitR xs r).length ((fitR xs r).map (.int .i64)) ∧ v3.ownBlock ≠ some g ∧
        g < wr.heap.size ∧ Blk wr g 3 (nums (n - r) (fun t => dif (fn xs) r t)) ∧ Below w.heap.size w wr) (fun _ v4 _ => match v4 with | .slice _ k _ => k | _ => 0)
    case atStart => exact ⟨0, by omega, rfl, HO1.out, by simp [Value.ownBlock]; omega, HBL.out.lt, HBL.out, HB1.out⟩
    case round =>
      obtain ⟨r, hr, rfl, ho, hob, hgs, hbl, hb⟩ := hrel
      have HO2 := Lib.hid ho
      have HOB := Lib.hid hob
      have HBL2 := Lib.hid hbl
      have HB2 := Lib.hid hb
      clear ho hob hbl hb
      by_cases hlt : r < n
      · obtain ⟨q, hq⟩ : ∃ q, n - r = q + 1 := ⟨n - r - 1, by omega⟩
        have HQ := Lib.hid hq
        have hqn : q + 1 ≤ n := by omega
        rw [hq] at HBL2 ⊢
        clear hq
        have c0 := HBL2.out.num (j := 0) (by omega)
        have HD := Lib.hid (dif_In HIN.out r 0)
        generalize hd : dif (fn xs) r 0 = d at c0 HD
        have HDD := Lib.hid hd
        clear hd
        go_wp2_with (at_builtin; refine wpList_append_ints' rfl _ _ 24 3 rfl elInt w.heap.size (xs := fitR xs r) (ys := [d]) rfl rfl (HO2.out.alloc _) ?c1 ?c2 ?c3 ?_)
        case c1 => exact ints_one HD.out
        case c2 => rw [fitR_len]; simp; omega
        case c3 => have := HB2.out.size; simp; omega
        intro v5 w5 hown5 hg5 hpl5
        have hob5 : v5.ownBlock ≠ some g := by
          rcases hpl5 with h | h
          · rw [h]; exact HOB.out
          · rw [h]; simp; omega
        have HOB5 := Lib.hid hob5
        have HBL5 := Lib.hid ((HBL2.out.below ((Below.refl _ _).alloc (Nat.le_refl _) _) hgs).grown hg5 HOB.out)
        have HB5 := Lib.hid ((HB2.out.alloc HB2.out.size _).grown hg5 (by have := HB2.out.size; simp; omega) (fun k hk => (HO2.out.lt k hk).1))
        have HO5 : Hid (w5.ownsRow w.heap.size 3 1 v5 (fitR xs (r + 1)).length ((fitR xs (r + 1)).map (.int .i64))) := Lib.hid (by
          rw [← fitR_succ, HDD.out]
          simpa using hown5)
        have hgs5 : g < w5.heap.size := by have := hg5.size; simp at this; omega
        clear hown5 hg5 hpl5 hob5 c0
        obtain ⟨wq, rfl⟩ : ∃ wq : World, wq = w5 := ⟨_, rfl⟩
        go_wp2
        go_loopw [5] (fun v wz => ∃ i : Nat, i ≤ q ∧ v = .int .i64 i ∧ Blk wz g 3 (nums (q + 1) (fun t => if t < i then dif (fn xs) (r + 1) t else dif (fn xs) r t)) ∧
            wz.ownsRow w.heap.size 3 1 v5 (fitR xs (r + 1)).length ((fitR xs (r + 1)).map (.int .i64)) ∧ Below w.heap.size w wz ∧ g < wz.heap.size) (fun v _ => q - (intOf v).toNat)
        case atStart => exact ⟨0, by omega, rfl, HBL5.out.congr (fun t _ => by rw [if_neg (by omega)]), HO5.out, HB5.out, hgs5⟩
        case round =>
          obtain ⟨i, hi, rfl, hbl6, ho6, hb6, hgs6⟩ := hrel
          have HBL6 := Lib.hid hbl6
          have HO6 := Lib.hid ho6
          have HB6 := Lib.hid hb6
          by_cases hlt2 : i < q
          · have e1 := hbl6.num (j := i + 1) (by omega)
            have e2 := hbl6.num (j := i) (by omega)
            have e3 := hbl6.free i
            rw [if_neg (by omega)] at e1 e2
            clear hbl6 ho6 hb6
            have HDS := Lib.hid (show wrap64 (dif (fn xs) r (i + 1) - dif (fn xs) r i) = dif (fn xs) (r + 1) i from rfl)
            generalize dif (fn xs) r (i + 1) = d1 at e1 HDS
            generalize dif (fn xs) r i = d2 at e2 HDS
            go_wp2
            go_region
            go_wp2
            go_roundw
            case rel =>
              refine ⟨i + 1, by omega, by go_num, ((HBL6.out.put i _).drew).congr (fun t ht => ?_), (ownsRow_setCell_other HO6.out HOB5.out _).drew, (HB6.out.setCell (by simp; omega) _).drew, by simpa using hgs6⟩
              by_cases e : t = i
              · subst e; rw [upd_same, if_pos (by omega), HDS.out]
              · rw [upd_other _ _ e]
                by_cases e2 : t < i
                · rw [if_pos e2, if_pos (by omega)]
                · rw [if_neg e2, if_neg (by omega)]
            case measure => simp [intOf]; omega
          · obtain rfl : i = q := by omega
            clear hbl6 ho6 hb6
            go_wp2
            go_roundw
            case rel =>
              refine ⟨r + 1, by omega, by rw [show n - (r + 1) = i by have := HQ.out; omega], HO6.out, HOB5.out, hgs6, ?_, HB6.out⟩
              rw [show n - (r + 1) = i by have := HQ.out; omega]
              exact (HBL6.out.fewer (by omega)).congr (fun t ht => by rw [if_pos ht])
            case measure => have := HQ.out; simp
      · obtain rfl : r = n := by omega
        rw [Nat.sub_self]
        go_wp2_with fail
        refine (refTrim (Ints.of_own HO2.out (by rw [fitR_len]; exact hl) (fitR_In HIN.out r))).mono ?_
        rintro e w6 ⟨u6, rfl, hi6, hb6⟩
        have HI6 := Lib.hid hi6
        have HB6 := Lib.hid (HB2.out.trans (hb6.mono HB2.out.size))
        clear hi6 hb6
        go_wp2
        go_ret
        exact ⟨_, rfl, by rw [HR.out]; exact HI6.out, HB6.out⟩
end Go.Proofs.Ytpocmldhgnphlaa
