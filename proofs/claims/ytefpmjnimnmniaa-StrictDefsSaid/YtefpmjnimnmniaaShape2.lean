/- The shape of 'select', of what is no operation, and of any. -/
import Derived.Test.YtefpmjnimnmniaaShape
namespace Go.Proofs.Ytefpmjnimnmniaa
set_option linter.unusedSimpArgs false
set_option linter.unusedVariables false
open Go.RowKit

set_option maxHeartbeats 3200000 in
theorem shape17 {w : World} : Calls Try.prog 64 #[.int .i64 17] w (ShpR 17 w) := by
  go_enter Try.func64, Try.ntmps64
  go_upto_region 1 with (fail)
  have B2 : Hid (Box (w.alloc (.cells #[.int .i64 0, .slice none 0 0, .int .i64 0] 91)) (w.heap.size) #[.int .i64 0, .slice none 0 0, .int .i64 0]) := Lib.hid (by simpa using (Box.new w #[.int .i64 0, .slice none 0 0, .int .i64 0] 91))
  have HW : Hid (Below w.heap.size w (w.alloc (.cells #[.int .i64 0, .slice none 0 0, .int .i64 0] 91))) := Lib.hid ((Below.refl _ _).alloc (Nat.le_refl _) _)
  generalize (w.alloc (.cells #[.int .i64 0, .slice none 0 0, .int .i64 0] 91)) = wv at *
  obtain ⟨lB2, cB2, fB2⟩ := B2.out
  go_wp2_with fail
  refine (irSame 2 1 ⟨by decide, by decide⟩ (by decide)).mono ?_
  rintro e w1 ⟨u, rfl, hu, hb1⟩
  obtain ⟨ua, uc, rfl⟩ := hu.ints.form
  simp only [List.length_replicate] at hu ⊢
  have HU := Lib.hid hu
  have HL := Lib.hid lB2
  clear hu
  clear lB2 cB2 fB2
  replace B2 := Lib.hid (B2.out.later hb1)
  replace HW := Lib.hid (HW.out.trans (hb1.mono HW.out.size))
  clear hb1
  obtain ⟨lB2, cB2, fB2⟩ := B2.out
  go_wp2_with fail
  refine (irSame 1 2 ⟨by decide, by decide⟩ (by decide)).mono ?_
  rintro e w2 ⟨u2, rfl, hu2, hb2⟩
  obtain ⟨ua2, uc2, rfl⟩ := hu2.ints.form
  simp only [List.length_replicate] at hu2 ⊢
  have HU2 := Lib.hid hu2
  clear hu2
  replace HU := Lib.hid (HU.out.later hb2)
  clear lB2 cB2 fB2
  replace B2 := Lib.hid (B2.out.later hb2)
  replace HW := Lib.hid (HW.out.trans (hb2.mono HW.out.size))
  clear hb2
  obtain ⟨lB2, cB2, fB2⟩ := B2.out
  have OL : Hid (Own w2 wv.heap.size [w.heap.size] 3 1 (.slice ua 1 uc) 1 [.int .i64 2]) := Lib.hid ⟨HU.out.own, fun g hg hm => by
    have := (HU.out.fresh g hg).1
    have := HL.out
    simp at hm; omega⟩
  have HS := Lib.hid HU.out.own
  have hsz : wv.heap.size ≤ w2.heap.size := by
    rcases HU.out.own.2 with ⟨_, h⟩ | ⟨g, cap, cur, hv, hg, hh, _⟩
    · simp at h
    · have := (Array.getElem?_eq_some_iff.1 hh).1; omega
  have HZ := Lib.hid hsz
  clear hsz
  go_wp2_with (at_builtin; refine wpList_own rfl _ _ 22 3 rfl elInt rfl rfl OL.out HU2.out.ints.1 (oneCell_int _) (by unfold maxLen; simp) (by simp) HZ.out (by intro b hb; simp at hb; omega) ?_; intro v3 w3 hO3 hBs3 hb3; obtain ⟨a3, c3, rfl⟩ := hO3.form; simp only [List.length_replicate] at hO3 ⊢; have HO3 := Lib.hid hO3; have B3 := Lib.hid (hBs3 _ _ (by simp) B2.out); have HW3 := Lib.hid (HW.out.trans (hb3.mono (Nat.le_of_lt HL.out))); clear hO3 hBs3 hb3; obtain ⟨l3, c3', f3⟩ := B3.out; clear lB2 cB2 fB2)
  have HN : Hid (New 3 wv w3 (.slice a3 3 c3) [2, 1, 1]) := Lib.hid ⟨HO3.out.row, by simp, fun x hx => by simp at hx; rcases hx with rfl | rfl | rfl <;> exact ⟨by decide, by decide⟩⟩
  exact bodyPost_ret (v := .tuple #[.agg #[.int .i64 1, .slice a3 3 c3, .int .i64 0], .bool true]) (by simp [results, Try.results64, go_sem, *]) rfl
    ⟨_, rfl, (((HN.out.other _ (.inl HL.out)).other _ (.inl HL.out)).other _ (.inl HL.out)).from (Nat.le_of_lt HL.out), ((HW3.out.setCell (by simp) _).setCell (by simp) _).setCell (by simp) _⟩

set_option maxHeartbeats 3200000 in
theorem shapeNo {w : World} {op : Int} (h : op < 1 ∨ 25 < op) : Calls Try.prog 64 #[.int .i64 op] w (ShpR op w) := by
  have HS := Lib.hid (show shp op = none by unfold shp; repeat (rw [if_neg (by omega)]))
  have e1 : (op == 1) = false := by simp; omega
  have e2 : (op == 2) = false := by simp; omega
  have e13 : (op == 13) = false := by simp; omega
  have e14 : (op == 14) = false := by simp; omega
  have e15 : (op == 15) = false := by simp; omega
  have e16 : (op == 16) = false := by simp; omega
  have e17 : (op == 17) = false := by simp; omega
  have e18 : (op == 18) = false := by simp; omega
  have e19 : (op == 19) = false := by simp; omega
  have e21 : (op == 21) = false := by simp; omega
  have e20 : (op == 20) = false := by simp; omega
  have e22 : (op == 22) = false := by simp; omega
  have e23 : (op == 23) = false := by simp; omega
  have e24 : (op == 24) = false := by simp; omega
  have e25 : (op == 25) = false := by simp; omega
  have r1 : (decide (3 ≤ op) && decide (op ≤ 12)) = false := by simp; omega
  have HR : Hid (decide (3 ≤ op) = false ∨ (decide (3 ≤ op) = true ∧ decide (op ≤ 12) = false)) := Lib.hid (by simp; omega)
  clear h r1
  rcases HR.out with r1 | ⟨r1, r2⟩
  all_goals
    go_enter Try.func64, Try.ntmps64
    go_upto_region 1 with (fail)
    have B2 : Hid (Box (w.alloc (.cells #[.int .i64 0, .slice none 0 0, .int .i64 0] 91)) (w.heap.size) #[.int .i64 0, .slice none 0 0, .int .i64 0]) := Lib.hid (by simpa using (Box.new w #[.int .i64 0, .slice none 0 0, .int .i64 0] 91))
    have HW : Hid (Below w.heap.size w (w.alloc (.cells #[.int .i64 0, .slice none 0 0, .int .i64 0] 91))) := Lib.hid ((Below.refl _ _).alloc (Nat.le_refl _) _)
    generalize (w.alloc (.cells #[.int .i64 0, .slice none 0 0, .int .i64 0] 91)) = wv at *
    obtain ⟨lB2, cB2, fB2⟩ := B2.out
    go_wp2
    exact bodyPost_ret (v := .tuple #[.agg #[.int .i64 0, .slice none 0 0, .int .i64 0], .bool false]) (by simp [results, Try.results64, go_sem, *]) rfl
      ⟨.slice none 0 0, by unfold shp0; rw [HS.out]; rfl, by unfold shp0; rw [HS.out]; exact New.nil, ((HW.out.setCell (by simp) _).setCell (by simp) _).setCell (by simp) _⟩

theorem shapeOf {w : World} (op : Int) : Calls Try.prog 64 #[.int .i64 op] w (ShpR op w) := by
  by_cases h : op < 1 ∨ 25 < op
  · exact shapeNo h
  · obtain rfl | rfl | rfl | rfl | rfl | rfl | rfl | rfl | rfl | rfl | rfl | rfl | rfl | rfl | rfl | rfl | rfl | rfl | rfl | rfl | rfl | rfl | rfl | rfl | rfl : op = 1 ∨ op = 2 ∨ op = 3 ∨ op = 4 ∨ op = 5 ∨ op = 6 ∨ op = 7 ∨ op = 8 ∨ op = 9 ∨ op = 10 ∨ op = 11 ∨ op = 12 ∨ op = 13 ∨ op = 14 ∨ op = 15 ∨ op = 16 ∨ op = 17 ∨ op = 18 ∨ op = 19 ∨ op = 20 ∨ op = 21 ∨ op = 22 ∨ op = 23 ∨ op = 24 ∨ op = 25 := by omega
    · exact shape1
    · exact shape2
    · exact shape3
    · exact shape4
    · exact shape5
    · exact shape6
    · exact shape7
    · exact shape8
    · exact shape9
    · exact shape10
    · exact shape11
    · exact shape12
    · exact shape13
    · exact shape14
    · exact shape15
    · exact shape16
    · exact shape17
    · exact shape18
    · exact shape19
    · exact shape20
    · exact shape21
    · exact shape22
    · exact shape23
    · exact shape24
    · exact shape25
end Go.Proofs.Ytefpmjnimnmniaa
