/- Stores into a slice of the call's own; the reference's find. -/
import Derived.Test.YtefpmjnimnmniaaRefI10
namespace Go.Proofs.Ytefpmjnimnmniaa
set_option linter.unusedSimpArgs false
set_option linter.unusedVariables false
open Go.RowKit

theorem Own.put {W : World} {base : Nat} {bs : List Nat} {e : TypeId} {g n cap : Nat} {cs : List Value} (h : Own W base bs e 1 (.slice (some ⟨g, 0, none⟩) n cap) n cs) {i : Nat} (hi : i < n) (u : Value) :
    Own (W.setCell ⟨g, i, none⟩ u) base bs e 1 (.slice (some ⟨g, 0, none⟩) n cap) n (cs.set i u) := by
  refine ⟨⟨by rw [List.length_set]; exact h.row.1, ?_⟩, h.free⟩
  rcases h.row.2 with ⟨h2, _⟩ | ⟨g', cap', cur, hv, hb, hh, h1, h2, h3, h4⟩
  · cases h2
  · cases hv
    refine .inr ⟨g, cap, cur.setIfInBounds i u, rfl, hb, ?_, h1, h2, by simpa using h3, ?_⟩
    · simp [World.setCell, Array.getElem?_modify, hh]
    · rw [← h4]
      simp only [Array.toList_setIfInBounds]
      rw [List.take_set]
/-- What a walk wants of such a slice. -/
theorem Own.cells {W : World} {base : Nat} {bs : List Nat} {e : TypeId} {v : Value} {n : Nat} {cs : List Value} (h : Own W base bs e 1 v n cs) (hn : 0 < n) : ∃ g cap, v = .slice (some ⟨g, 0, none⟩) n cap ∧ g ∉ bs ∧ base ≤ g ∧ g < W.heap.size ∧ n ≤ cap ∧ cap ≤ 9223372036854775807 ∧ (∀ i x, cs[i]? = some x → W.cell? ⟨g, i, none⟩ = some x) ∧ ∀ o, W.frozen? ⟨g, o, none⟩ = false := by
  rcases h.row.2 with ⟨_, h2⟩ | ⟨g, cap, cur, hv, hb, hh, h1, h2, h3, h4⟩
  · omega
  · refine ⟨g, cap, hv, h.free g (by rw [hv]; rfl), hb, (Array.getElem?_eq_some_iff.1 hh).1, h1, by unfold maxLen at h2; omega, fun i x hx => ?_, fun o => ?_⟩
    · simp only [World.cell?, hh]
      rw [← h4, List.getElem?_take] at hx
      split at hx
      · simpa using hx
      · cases hx
    · simp only [World.frozen?, hh]; simp
theorem Own.ints {W : World} {base : Nat} {bs : List Nat} {e : TypeId} {v : Value} {xs : List Int} (h : Own W base bs e 1 v xs.length (xs.map (.int .i64))) (hn : xs.length ≤ 17592186044416) (hx : ∀ x ∈ xs, In64 x) : Ints W v xs := Ints.of_own h.row hn hx

/-- Rising lists. -/
def Rise (L : List Int) : Prop := L.Pairwise (· < ·)
theorem Rise.lt {L : List Int} (h : Rise L) {i j : Nat} {x y : Int} (hi : L[i]? = some x) (hj : L[j]? = some y) (hij : i < j) : x < y := by
  obtain ⟨hi1, rfl⟩ := List.getElem?_eq_some_iff.1 hi
  obtain ⟨hj1, rfl⟩ := List.getElem?_eq_some_iff.1 hj
  exact (List.pairwise_iff_getElem.1 h) i j hi1 hj1 hij
/-- Where a number stands. -/
def FindI (L : List Int) (n r : Int) : Prop := (∃ j : Nat, L[j]? = some n ∧ r = j) ∨ (n ∉ L ∧ r = -1)

set_option maxHeartbeats 3200000 in
theorem refFind {w : World} {v : Value} {L : List Int} {x r : Int} (hv : Ints w v L) (hR : Rise L) (hr : FindI L x r) :
    Calls Try.prog 69 #[v, .int .i64 x] w fun e w' => e = .returned (.int .i64 r) ∧ w = w' := by
  obtain ⟨a, c, b, o, rfl, hc, hm, ha, hx⟩ := hv.parts
  have hle := hv.1.big
  obtain ⟨n, hn⟩ : ∃ n, n = L.length := ⟨_, rfl⟩
  rw [← hn] at hc ha hx hle ⊢
  have HN := Lib.hid hn
  have HA := Lib.hid ha
  have HX := Lib.hid hx
  have HR := Lib.hid hR
  have HF := Lib.hid hr
  clear hv hR hr hn ha hx
  go_enter Try.func69, Try.ntmps69
  go_wp2
  go_loopw [5, 6] (fun a b wr => ∃ lo hi : Nat, lo ≤ hi ∧ hi ≤ n ∧ a = .int .i64 lo ∧ b = .int .i64 hi ∧ (∀ i y, i < lo → L[i]? = some y → y < x) ∧ (∀ i y, hi ≤ i → L[i]? = some y → x < y) ∧ wr = w) (fun a b _ => (intOf b).toNat - (intOf a).toNat)
  case atStart => exact ⟨0, n, Nat.zero_le _, Nat.le_refl _, rfl, rfl, fun i y h => by omega, fun i y h hy => by have := (List.getElem?_eq_some_iff.1 hy).1; have := HN.out; omega, rfl⟩
  case round =>
    obtain ⟨lo, hi, hlh, hhn, rfl, rfl, hlow, hhigh, rfl⟩ := hrel
    have HLO := Lib.hid hlow
    have HHI := Lib.hid hhigh
    clear hlow hhigh
    by_cases hlt : lo < hi
    · obtain ⟨m, hmm⟩ : ∃ m, m = (lo + hi) / 2 := ⟨_, rfl⟩
      have hm1 : lo ≤ m := by omega
      have hm2 : m < hi := by omega
      have hmn : m < n := by omega
      obtain ⟨rfl, hbw⟩ := HA.out (by omega)
      have h0 := HX.out m hmn
      have hmx := list_at L m (by have := HN.out; omega)
      have HMX := Lib.hid hmx
      have hq : ((lo : Int) + (hi : Int)) / 2 = (m : Int) := by omega
      have HMM := Lib.hid hmm
      clear hmm hmx
      generalize L.getD m 0 = y at *
      cases h1 : (y == x)
      · cases h2 : decide (y < x)
        · have H1 := Lib.hid h1
          have H2 := Lib.hid h2
          go_wp2
          go_roundw
          case rel =>
            refine ⟨lo, m, hm1, by omega, rfl, by first | rfl | rw [hq], HLO.out, fun i z hi hz => ?_, by trivial⟩
            have e1 := H1.out
            have e2 := H2.out
            simp at e1 e2
            by_cases he : i = m
            · subst he
              have : z = y := by have := HMX.out; rw [hz] at this; cases this; rfl
              omega
            · have := HR.out.lt HMX.out hz (by omega)
              omega
          case measure => simp [intOf]; omega
        · have H2 := Lib.hid h2
          go_wp2
          go_roundw
          case rel =>
            refine ⟨m + 1, hi, by omega, hhn, by first | go_num | (rw [hq]; rfl), rfl, fun i z hi hz => ?_, HHI.out, by trivial⟩
            have e2 := H2.out
            simp at e2
            by_cases he : i = m
            · subst he
              have : z = y := by have := HMX.out; rw [hz] at this; cases this; rfl
              omega
            · have := HR.out.lt hz HMX.out (by omega)
              omega
          case measure => simp [intOf]; omega
      · have H1 : Hid (y = x) := Lib.hid (by simpa using h1)
        go_wp2
        go_ret
        refine ⟨?_, rfl⟩
        have e1 := HMX.out
        rw [H1.out] at e1
        rcases HF.out with ⟨j, hj, rfl⟩ | ⟨hno, _⟩
        · have : j = m := by
            by_cases hjm : j < m
            · have := HR.out.lt hj e1 hjm; omega
            · by_cases hmj : m < j
              · have := HR.out.lt e1 hj hmj; omega
              · omega
          rw [this]; rfl
        · exact absurd (List.mem_of_getElem? e1) hno
    · obtain rfl : lo = hi := by omega
      go_wp2
      go_ret
      refine ⟨?_, rfl⟩
      rcases HF.out with ⟨j, hj, rfl⟩ | ⟨_, rfl⟩
      · by_cases hjl : j < lo
        · have := HLO.out j x hjl hj; omega
        · have := HHI.out j x (by omega) hj; omega
      · rfl
end Go.Proofs.Ytefpmjnimnmniaa
