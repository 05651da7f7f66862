/- The reference's SameInts; the simplest function; IrArgs. -/
import Derived.Test.YtefpmjnimnmniaaRefI1
namespace Go.Proofs.Ytefpmjnimnmniaa
set_option linter.unusedSimpArgs false
set_option linter.unusedVariables false
open Go.RowKit

theorem list_eq {xs ys : List Int} (hl : xs.length = ys.length) (h : ∀ j, j < xs.length → xs.getD j 0 = ys.getD j 0) : xs = ys := by
  apply List.ext_getElem hl
  intro i h1 h2
  have := h i h1
  simpa [List.getD_eq_getElem?_getD, h1, h2] using this

set_option maxHeartbeats 400000 in
theorem sameInts {w : World} {u v : Value} {xs ys : List Int} (hu : Ints w u xs) (hv : Ints w v ys) :
    Calls Try.prog 26 #[u, v] w fun e w' => e = .returned (.bool (decide (xs = ys))) ∧ ∃ n, w' = w.drewN n := by
  have hl1 := hu.le
  have hl2 := hv.le
  obtain ⟨a1, c1, b1, o1, rfl, hc1, hm1, ha1, hx⟩ := hu.parts
  obtain ⟨a2, c2, b2, o2, rfl, hc2, hm2, ha2, hy⟩ := hv.parts
  clear hu hv
  generalize H1 : xs.length = n1 at *
  generalize H2 : ys.length = n2 at *
  have G1 := Lib.hid H1
  have G2 := Lib.hid H2
  clear H1 H2
  by_cases hne : n1 = n2
  · subst hne
    go_enter Try.func26, Try.ntmps26
    go_wp2
    go_loopw [4, 5] (fun r i wr => r = .bool false ∧ ∃ k : Nat, k ≤ n1 ∧ i = .int .i64 k ∧ (∀ j, j < k → xs.getD j 0 = ys.getD j 0) ∧ ∃ n, wr = w.drewN n) (fun _ i _ => n1 - (intOf i).toNat)
    case atStart => exact ⟨rfl, 0, by omega, rfl, by simp, 0, rfl⟩
    case round =>
      obtain ⟨rfl, k, hk, rfl, hsame, n, rfl⟩ := hrel
      have HS := Lib.hid hsame
      clear hsame
      by_cases hlt : k < n1
      · obtain ⟨rfl, -⟩ := ha1 (by omega)
        obtain ⟨rfl, -⟩ := ha2 (by omega)
        have hxk := hx k hlt
        have hyk := hy k hlt
        clear hx hy ha1 ha2
        generalize G3 : xs.getD k 0 = p at *
        generalize G4 : ys.getD k 0 = q at *
        have H3 := Lib.hid G3
        have H4 := Lib.hid G4
        clear G3 G4
        by_cases hpq : p = q
        · subst hpq
          go_wp2
          go_quiet (fail)
          go_wp2
          go_roundw
          case rel =>
            refine ⟨rfl, k + 1, by omega, by go_num, ?_, _, rfl⟩
            intro j hj
            by_cases e : j = k
            · subst e; rw [H3.out, H4.out]
            · exact HS.out j (by omega)
          case measure => simp [intOf]; omega
        · go_wp2
          go_quiet (fail)
          go_wp2
          go_ret
          exact ⟨ret_bool (decide_eq_false (fun e => hpq (by rw [← H3.out, ← H4.out, e]))).symm, drewN_two _ _ _⟩
      · have hkn : k = n1 := by omega
        subst hkn
        go_wp2
        go_ret
        exact ⟨ret_bool (decide_eq_true (list_eq (by rw [G1.out, G2.out]) (by rw [G1.out]; exact HS.out))).symm, _, rfl⟩
  · go_enter Try.func26, Try.ntmps26
    go_wp2
    go_ret
    exact ⟨ret_bool (decide_eq_false (fun e => hne (by rw [← G1.out, ← G2.out, e]))).symm, 0, rfl⟩


theorem sameB {w : World} {u v : Value} {xs ys : List Int} (hu : Ints w u xs) (hv : Ints w v ys) :
    Calls Try.prog 26 #[u, v] w fun e w' => e = .returned (.bool (decide (xs = ys))) ∧ Below w.heap.size w w' := by
  refine (sameInts hu hv).mono ?_
  rintro e w' ⟨rfl, nd, rfl⟩
  exact ⟨rfl, below_drewN (Below.refl _ _) nd⟩

/-- The simplest function. -/
def simplest : FuncD := ⟨[], 0, 0, [⟨[], [⟨1, 0, [], 5⟩], ⟨3, 0, [], 0⟩⟩]⟩
theorem ints_nil {W : World} : Ints W (.slice none 0 0) [] := ⟨Row.nil, by simp⟩
theorem simplest_val {W : World} {bi bb : Nat} (hi : Box W bi #[.int .i64 1, .int .i64 0, .slice none 0 0, .int .i64 5]) (hb : Box W bb #[.slice none 0 0, .slice (some ⟨bi, 0, none⟩) 1 1, .int .i64 3, .int .i64 0, .slice none 0 0, .int .i64 0]) :
    FuncV W (.agg #[.slice none 0 0, .int .i64 0, .int .i64 0, .slice (some ⟨bb, 0, none⟩) 1 1]) simplest := by
  refine ⟨_, _, rfl, ints_nil, ⟨by decide, by decide⟩, ⟨by decide, by decide⟩, _, Row.of_box (n := 1) (size := 6) hb rfl (by omega), fun j x hj => ?_⟩
  obtain rfl : j = 0 := by have := (List.getElem?_eq_some_iff.1 hj).1; simp [simplest] at this; omega
  simp [simplest] at hj
  subst hj
  refine ⟨_, _, _, rfl, SliceOf.nil, ⟨_, Row.of_box (n := 1) (size := 4) hi rfl (by omega), fun j x hj => ?_⟩, _, rfl, ints_nil, ⟨by decide, by decide⟩, ⟨by decide, by decide⟩, by decide, by decide⟩
  obtain rfl : j = 0 := by have := (List.getElem?_eq_some_iff.1 hj).1; simp at this; omega
  simp at hj
  subst hj
  exact ⟨_, rfl, ints_nil, ⟨by decide, by decide⟩, ⟨by decide, by decide⟩, by decide, by decide⟩
theorem simplest_ok : checkF simplest = 0 ∧ sizeA simplest = 2 := by
  constructor <;> decide

set_option maxHeartbeats 1600000 in
theorem awake1 {w : World} : Calls Try.prog 25 #[] w fun e w' => e = .returned (.bool true) ∧ Below w.heap.size w w' := by
  go_enter Try.func25, Try.ntmps25
  go_upto_region 2 with (fail)
  have B0 : Hid (Box (((w.alloc (.cells #[.int .i64 1, .int .i64 0, .slice none 0 0, .int .i64 5] 84)).alloc (.cells #[.slice none 0 0, .slice (some ⟨w.heap.size, 0, none⟩) 1 1, .int .i64 3, .int .i64 0, .slice none 0 0, .int .i64 0] 57)).alloc (.cells #[.slice none 0 0, .int .i64 0, .int .i64 0, .slice (some ⟨w.heap.size + 1, 0, none⟩) 1 1] 30)) (w.heap.size) #[.int .i64 1, .int .i64 0, .slice none 0 0, .int .i64 5]) := Lib.hid (by simpa using (((Box.new w #[.int .i64 1, .int .i64 0, .slice none 0 0, .int .i64 5] 84).alloc _).alloc _))
  have B1 : Hid (Box (((w.alloc (.cells #[.int .i64 1, .int .i64 0, .slice none 0 0, .int .i64 5] 84)).alloc (.cells #[.slice none 0 0, .slice (some ⟨w.heap.size, 0, none⟩) 1 1, .int .i64 3, .int .i64 0, .slice none 0 0, .int .i64 0] 57)).alloc (.cells #[.slice none 0 0, .int .i64 0, .int .i64 0, .slice (some ⟨w.heap.size + 1, 0, none⟩) 1 1] 30)) (w.heap.size + 1) #[.slice none 0 0, .slice (some ⟨w.heap.size, 0, none⟩) 1 1, .int .i64 3, .int .i64 0, .slice none 0 0, .int .i64 0]) := Lib.hid (by simpa using ((Box.new (w.alloc (.cells #[.int .i64 1, .int .i64 0, .slice none 0 0, .int .i64 5] 84)) #[.slice none 0 0, .slice (some ⟨w.heap.size, 0, none⟩) 1 1, .int .i64 3, .int .i64 0, .slice none 0 0, .int .i64 0] 57).alloc _))
  have B2 : Hid (Box (((w.alloc (.cells #[.int .i64 1, .int .i64 0, .slice none 0 0, .int .i64 5] 84)).alloc (.cells #[.slice none 0 0, .slice (some ⟨w.heap.size, 0, none⟩) 1 1, .int .i64 3, .int .i64 0, .slice none 0 0, .int .i64 0] 57)).alloc (.cells #[.slice none 0 0, .int .i64 0, .int .i64 0, .slice (some ⟨w.heap.size + 1, 0, none⟩) 1 1] 30)) (w.heap.size + 1 + 1) #[.slice none 0 0, .int .i64 0, .int .i64 0, .slice (some ⟨w.heap.size + 1, 0, none⟩) 1 1]) := Lib.hid (by simpa using (Box.new ((w.alloc (.cells #[.int .i64 1, .int .i64 0, .slice none 0 0, .int .i64 5] 84)).alloc (.cells #[.slice none 0 0, .slice (some ⟨w.heap.size, 0, none⟩) 1 1, .int .i64 3, .int .i64 0, .slice none 0 0, .int .i64 0] 57)) #[.slice none 0 0, .int .i64 0, .int .i64 0, .slice (some ⟨w.heap.size + 1, 0, none⟩) 1 1] 30))
  have HW : Hid (Below w.heap.size w (((w.alloc (.cells #[.int .i64 1, .int .i64 0, .slice none 0 0, .int .i64 5] 84)).alloc (.cells #[.slice none 0 0, .slice (some ⟨w.heap.size, 0, none⟩) 1 1, .int .i64 3, .int .i64 0, .slice none 0 0, .int .i64 0] 57)).alloc (.cells #[.slice none 0 0, .int .i64 0, .int .i64 0, .slice (some ⟨w.heap.size + 1, 0, none⟩) 1 1] 30))) := Lib.hid ((((Below.refl _ _).alloc (Nat.le_refl _) _).alloc (by simp) _).alloc (by simp; omega) _)
  generalize (((w.alloc (.cells #[.int .i64 1, .int .i64 0, .slice none 0 0, .int .i64 5] 84)).alloc (.cells #[.slice none 0 0, .slice (some ⟨w.heap.size, 0, none⟩) 1 1, .int .i64 3, .int .i64 0, .slice none 0 0, .int .i64 0] 57)).alloc (.cells #[.slice none 0 0, .int .i64 0, .int .i64 0, .slice (some ⟨w.heap.size + 1, 0, none⟩) 1 1] 30)) = wv at *
  obtain ⟨lB0, cB0, fB0⟩ := B0.out
  obtain ⟨lB1, cB1, fB1⟩ := B1.out
  obtain ⟨lB2, cB2, fB2⟩ := B2.out
  go_wp2_with fail
  refine (irSize (simplest_val B0.out B1.out)).mono ?_
  rintro e w2 ⟨rfl, hb⟩
  rw [simplest_ok.1, simplest_ok.2]
  clear lB0 cB0 fB0 lB1 cB1 fB1 lB2 cB2 fB2
  replace B0 := Lib.hid (B0.out.later hb)
  replace B1 := Lib.hid (B1.out.later hb)
  replace B2 := Lib.hid (B2.out.later hb)
  replace HW := Lib.hid (HW.out.trans (hb.mono HW.out.size))
  clear hb
  obtain ⟨lB0, cB0, fB0⟩ := B0.out
  obtain ⟨lB1, cB1, fB1⟩ := B1.out
  obtain ⟨lB2, cB2, fB2⟩ := B2.out
  go_wp2_with fail
  refine (irCheck (simplest_val B0.out B1.out)).mono ?_
  rintro e w3 ⟨rfl, hb⟩
  rw [simplest_ok.1]
  clear lB0 cB0 fB0 lB1 cB1 fB1 lB2 cB2 fB2
  replace B0 := Lib.hid (B0.out.later hb)
  replace B1 := Lib.hid (B1.out.later hb)
  replace B2 := Lib.hid (B2.out.later hb)
  replace HW := Lib.hid (HW.out.trans (hb.mono HW.out.size))
  clear hb
  obtain ⟨lB0, cB0, fB0⟩ := B0.out
  obtain ⟨lB1, cB1, fB1⟩ := B1.out
  obtain ⟨lB2, cB2, fB2⟩ := B2.out
  go_wp2
  go_ret
  exact ⟨rfl, HW.out⟩

set_option maxHeartbeats 3200000 in
theorem walkArgs {w : World} {op : Int} (h64 : In64 op) : Calls Try.prog 3 #[.int .i64 op] w fun e w' => e = .returned (.bool true) ∧ Below w.heap.size w w' := by
  clear h64
  go_enter Try.func3, Try.ntmps3
  go_wp2_with fail
  refine (irArgs op).mono ?_
  rintro e w1 ⟨u, rfl, hu, hb1⟩
  have HU := Lib.hid hu
  have HB := Lib.hid hb1
  clear hu hb1
  go_wp2_with fail
  refine (refArgs op).mono ?_
  rintro e w2 ⟨v, rfl, hv, hb2⟩
  replace HU := Lib.hid (HU.out.later hb2)
  have HV := Lib.hid hv
  replace HB := Lib.hid (HB.out.trans (hb2.mono HB.out.size))
  clear hv hb2
  go_wp2_with fail
  refine awake1.mono ?_
  rintro e w3 ⟨rfl, hb3⟩
  replace HU := Lib.hid (HU.out.later hb3)
  replace HV := Lib.hid (HV.out.later hb3)
  replace HB := Lib.hid (HB.out.trans (hb3.mono HB.out.size))
  clear hb3
  go_wp2_with fail
  refine (sameB HU.out.ints HV.out.ints).mono ?_
  rintro e w4 ⟨rfl, hb4⟩
  have HB4 := Lib.hid (HB.out.trans (hb4.mono HB.out.size))
  clear hb4
  go_wp2
  go_ret
  exact ⟨rfl, HB4.out⟩
end Go.Proofs.Ytefpmjnimnmniaa
