/- The reference's binomials, by halves. -/
import Derived.Test.YtpocmldhgnphlaaAwake
namespace Go.Proofs.Ytpocmldhgnphlaa
set_option linter.unusedSimpArgs false
set_option linter.unusedVariables false
open Go.RowKit

set_option maxHeartbeats 3200000 in
theorem row_any (M : Nat) (hM : M ≤ 1000) (N : Nat) : ∀ (n : Nat) (w : World), n ≤ N → n ≤ 9223372036854775807 →
    Calls Try.prog 30 #[.int .i64 n, .int .i64 M] w fun e w' => ∃ b, e = .returned (.slice (some ⟨b, 0, none⟩) (M + 1) (M + 1)) ∧ w.heap.size ≤ b ∧
      Blk w' b 3 (nums (M + 1) (fun k => wrap64 (bin n k : Nat))) ∧ Below w.heap.size w w' := by
  induction N with
  | zero =>
    intro n w hn hbig
    obtain rfl : n = 0 := by omega
    go_enter Try.func30, Try.ntmps30
    go_wp2_with (at_make; refine wpList_make_ints rfl _ _ 24 3 rfl elInt (M + 1) rfl rfl (by omega) (by omega) (by omega) ?_)
    intro w1 hblk hb1
    have hc := hblk.num (j := 0) (by omega)
    have hfr := hblk.free 0
    have HBL := Lib.hid hblk
    have HB1 := Lib.hid hb1
    clear hblk hb1
    go_wp2
    go_ret
    refine ⟨_, rfl, Nat.le_refl _, (HBL.out.put 0 1).congr fun t ht => ?_, HB1.out.setCell (Nat.le_refl _) _⟩
    cases t with
    | zero => rw [upd_same]; exact (wrap_in ⟨by simp, by simp⟩).symm
    | succ t => rw [upd_other _ _ (by omega), bin_zero_succ]; exact wrap_zero.symm
  | succ N ih =>
    intro n w hn hbig
    by_cases h0 : n = 0
    · subst h0; exact ih 0 w (by omega) (by omega)
    have hz : ((n : Int) == 0) = false := by simp; omega
    have IH := Lib.hid ih
    clear ih
    by_cases hodd : n % 2 = 1
    · have hod : ((n : Int) % 2 == 1) = true := by simp; omega
      go_enter Try.func30, Try.ntmps30
      go_wp2_with (at_make; refine wpList_make_ints rfl _ _ 24 3 rfl elInt (M + 1) rfl rfl (by omega) (by omega) (by omega) ?_)
      intro w1 hblk hb1
      have hc := hblk.num (j := 0) (by omega)
      have hfr := hblk.free 0
      have HBL := Lib.hid (hblk.put 0 1)
      have HB1 := Lib.hid (hb1.setCell (p := ⟨w.heap.size, 0, none⟩) (Nat.le_refl _) (.int .i64 1))
      have hsz := hblk.lt
      clear hblk hb1
      go_wp2_with fail
      rw [show ((n : Int) - 1) = ((n - 1 : Nat) : Int) by omega]
      refine (IH.out (n - 1) _ (by omega) (by omega)).mono ?_
      rintro e w2 ⟨b2, rfl, hb2', hblk2, hb2⟩
      have hne : w.heap.size < b2 := by simp at hb2'; omega
      have HBL2 := Lib.hid hblk2
      have HBO := Lib.hid (HBL.out.below hb2 (by simpa using hsz))
      have HB2 := Lib.hid (HB1.out.trans (hb2.mono (by simp; omega)))
      have HP := Lib.hid (fun k => show wrap64 (wrap64 (bin (n - 1) (k + 1) : Nat) + wrap64 (bin (n - 1) k : Nat)) = wrap64 (bin n (k + 1) : Nat) by
        obtain ⟨m, rfl⟩ : ∃ m, n = m + 1 := ⟨n - 1, by omega⟩
        rw [wrap_add_l, wrap_add_r, bin_succ, Nat.add_sub_cancel]
        congr 1; push_cast; omega)
      clear hblk2 hb2 hb2' hfr hc
      go_wp2
      go_loopw [7] (fun i wr => ∃ k : Nat, 1 ≤ k ∧ k ≤ M + 1 ∧ i = .int .i64 k ∧ (∃ f, Blk wr w.heap.size 3 (nums (M + 1) f) ∧ ∀ t, t < k → f t = wrap64 (bin n t : Nat)) ∧ Blk wr b2 3 (nums (M + 1) (fun k => wrap64 (bin (n - 1) k : Nat))) ∧ Below w.heap.size w wr) (fun i _ => M + 1 - (intOf i).toNat)
      case atStart =>
        refine ⟨1, by omega, by omega, rfl, ⟨_, HBO.out, fun t ht => ?_⟩, HBL2.out, HB2.out⟩
        obtain rfl : t = 0 := by omega
        rw [upd_same, bin_zero]; exact (wrap_in ⟨by simp, by simp⟩).symm
      case round =>
        obtain ⟨k, hk1, hk, rfl, ⟨f, hf, hft⟩, hl, hb⟩ := hrel
        have HFT := Lib.hid hft
        have HF := Lib.hid hf
        have HL := Lib.hid hl
        have HB := Lib.hid hb
        by_cases hlt : k ≤ M
        · obtain ⟨q, rfl⟩ : ∃ q, k = q + 1 := ⟨k - 1, by omega⟩
          have c1 := hl.num (j := q + 1) (by omega)
          have c2 := hl.num (j := q) (by omega)
          have c3 := hf.num (j := q + 1) (by omega)
          have c4 := hf.free (q + 1)
          clear hft hf hl hb
          go_wp2
          go_region
          go_wp2
          go_roundw
          case rel =>
            refine ⟨q + 1 + 1, by omega, by omega, by go_num, ⟨_, (HF.out.put (q + 1) _).drew, fun t ht => ?_⟩, (HL.out.other _ (by omega)).drew, (HB.out.setCell (Nat.le_refl _) _).drew⟩
            by_cases e : t = q + 1
            · subst e; rw [upd_same, HP.out]
            · rw [upd_other _ _ e]; exact HFT.out t (by omega)
          case measure => simp [intOf]; omega
        · obtain rfl : k = M + 1 := by omega
          clear hft hf hl hb
          go_wp2
          go_ret
          exact ⟨_, rfl, Nat.le_refl _, HF.out.congr HFT.out, HB.out⟩
    · have hod : ((n : Int) % 2 == 1) = false := by simp; omega
      obtain ⟨h, rfl⟩ : ∃ h, n = 2 * h := ⟨n / 2, by omega⟩
      go_enter Try.func30, Try.ntmps30
      go_wp2_with (at_make; refine wpList_make_ints rfl _ _ 24 3 rfl elInt (M + 1) rfl rfl (by omega) (by omega) (by omega) ?_)
      intro w1 hblk hb1
      have hc := hblk.num (j := 0) (by omega)
      have hfr := hblk.free 0
      have HBL := Lib.hid (hblk.put 0 1)
      have HB1 := Lib.hid (hb1.setCell (p := ⟨w.heap.size, 0, none⟩) (Nat.le_refl _) (.int .i64 1))
      have hsz := hblk.lt
      clear hblk hb1
      go_wp2_with fail
      refine (IH.out h _ (by omega) (by omega)).mono ?_
      rintro e w2 ⟨b2, rfl, hb2', hblk2, hb2⟩
      have hne : w.heap.size < b2 := by simp at hb2'; omega
      have HBL2 := Lib.hid hblk2
      have HBO := Lib.hid (HBL.out.below hb2 (by simpa using hsz))
      have HB2 := Lib.hid (HB1.out.trans (hb2.mono (by simp; omega)))
      have HP := Lib.hid (fun k => show wrap64 (sumN (k + 1) (fun i => (bin h i : Int) * (bin h (k - i) : Nat))) = wrap64 (bin (2 * h) k : Nat) by
        rw [bin_split, show h + h = 2 * h by omega])
      have HQ := Lib.hid (fun (k i : Nat) => show wrap64 (wrap64 (sumN i (fun i => (bin h i : Int) * (bin h (k - i) : Nat))) + wrap64 (wrap64 (bin h i : Nat) * wrap64 (bin h (k - i) : Nat))) = wrap64 (sumN (i + 1) (fun i => (bin h i : Int) * (bin h (k - i) : Nat))) by
        rw [wrap_add_l, wrap_add_r, ← wrap_add_r, wrap_mul_l, wrap_mul_r, wrap_add_r]; rfl)
      clear hblk2 hb2 hb2' hfr hc
      go_wp2
      go_loopw [9] (fun i wr => ∃ k : Nat, k ≤ M + 1 ∧ i = .int .i64 k ∧ (∃ f, Blk wr w.heap.size 3 (nums (M + 1) f) ∧ ∀ t, t < k → f t = wrap64 (bin (2 * h) t : Nat)) ∧ Blk wr b2 3 (nums (M + 1) (fun k => wrap64 (bin h k : Nat))) ∧ Below w.heap.size w wr) (fun i _ => M + 1 - (intOf i).toNat)
      case atStart => exact ⟨0, by omega, rfl, ⟨_, HBO.out, fun t ht => by omega⟩, HBL2.out, HB2.out⟩
      case round =>
        obtain ⟨k, hk, rfl, ⟨f, hf, hft⟩, hl, hb⟩ := hrel
        have HFT := Lib.hid hft
        have HF := Lib.hid (hf.put k 0)
        have HL := Lib.hid (hl.other (j := k) (.int .i64 0) (show b2 ≠ w.heap.size by omega))
        have HB := Lib.hid (hb.setCell (p := ⟨w.heap.size, k, none⟩) (Nat.le_refl _) (.int .i64 0))
        have HF0 := Lib.hid hf
        have HB0 := Lib.hid hb
        by_cases hlt : k ≤ M
        · have c3 := hf.num (j := k) (by omega)
          have c4 := hf.free k
          clear hft hf hl hb
          obtain ⟨wq, rfl⟩ : ∃ wq : World, wq = wr := ⟨_, rfl⟩
          go_wp2
          go_loopw [10] (fun i wr => ∃ q : Nat, q ≤ k + 1 ∧ i = .int .i64 q ∧ (∃ g, Blk wr w.heap.size 3 (nums (M + 1) g) ∧ (∀ t, t < k → g t = wrap64 (bin (2 * h) t : Nat)) ∧ g k = wrap64 (sumN q (fun i => (bin h i : Int) * (bin h (k - i) : Nat)))) ∧
              Blk wr b2 3 (nums (M + 1) (fun k => wrap64 (bin h k : Nat))) ∧ Below w.heap.size w wr) (fun i _ => k + 1 - (intOf i).toNat)
          case atStart =>
            exact ⟨0, by omega, rfl, ⟨_, HF.out, fun t ht => by rw [upd_other _ _ (by omega)]; exact HFT.out t ht, by rw [upd_same]; exact wrap_zero.symm⟩, HL.out, HB.out⟩
          case round =>
            obtain ⟨q, hq, rfl, ⟨g, hg, hgt, hgk⟩, hl, hb⟩ := hrel
            have HG := Lib.hid hg
            have HGT := Lib.hid hgt
            have HL2 := Lib.hid hl
            have HB2' := Lib.hid hb
            by_cases hqk : q ≤ k
            · have d1 := hl.num (j := q) (by omega)
              have d2 := hl.num (j := k - q) (by omega)
              have d3 := hg.num (j := k) (by omega)
              have d4 := hg.free k
              rw [hgk] at d3
              have hsub : (((k : Int) - (q : Int))).toNat = k - q := by omega
              clear hg hgt hl hb hgk c3 c4
              go_wp2
              go_region
              go_wp2
              go_roundw
              case rel =>
                refine ⟨q + 1, by omega, by go_num, ⟨_, (HG.out.put k _).drew, fun t ht => ?_, ?_⟩, (HL2.out.other _ (by omega)).drew, (HB2'.out.setCell (Nat.le_refl _) _).drew⟩
                · rw [upd_other _ _ (by omega)]; exact HGT.out t ht
                · rw [upd_same, HQ.out]
              case measure => simp [intOf]; omega
            · obtain rfl : q = k + 1 := by omega
              rw [HP.out] at hgk
              have HGK := Lib.hid hgk
              clear hg hgt hl hb hgk c3 c4
              go_wp2
              go_roundw
              case rel =>
                refine ⟨k + 1, by omega, by go_num, ⟨_, HG.out, fun t ht => ?_⟩, HL2.out, HB2'.out⟩
                by_cases e : t = k
                · subst e; exact HGK.out
                · exact HGT.out t (by omega)
              case measure => simp [intOf]; omega
        · obtain rfl : k = M + 1 := by omega
          clear hft hf hl hb
          go_wp2
          go_ret
          exact ⟨_, rfl, Nat.le_refl _, HF0.out.congr HFT.out, HB0.out⟩

theorem row {w : World} {n m : Int} (N M : Nat) (hN : n = N) (hm : m = M) (hM : M ≤ 1000) (hbig : N ≤ 9223372036854775807) :
    Calls Try.prog 30 #[.int .i64 n, .int .i64 m] w fun e w' => ∃ b, e = .returned (.slice (some ⟨b, 0, none⟩) (M + 1) (M + 1)) ∧ w.heap.size ≤ b ∧
      Blk w' b 3 (nums (M + 1) (fun k => wrap64 (bin N k : Nat))) ∧ Below w.heap.size w w' := by
  subst hN; subst hm
  exact row_any M hM N N w (Nat.le_refl _) hbig
end Go.Proofs.Ytpocmldhgnphlaa
