/- What the claim needs, part 22. -/
import Derived.Test.YtefpmjnimnmniaaH21
namespace Go.Proofs.Ytefpmjnimnmniaa
set_option linter.unusedSimpArgs false
set_option linter.unusedVariables false
open Go.RowKit
set_option maxHeartbeats 1600000 in
theorem irCheck {w : World} {v : Value} {f : FuncD} (hv : FuncV w v f) : Calls Try.prog 66 #[v] w fun e w' => e = .returned (.int .i64 (checkF f)) ∧ Below w.heap.size w w' := by
  have HV := Lib.hid hv
  obtain ⟨a, b, rfl, hp, ha, hc, hB⟩ := hv
  obtain ⟨ap, cp, rfl⟩ := hp.form
  obtain ⟨ab, cb, rfl⟩ := hB.form
  clear hp ha hc hB
  go_enter Try.func66, Try.ntmps66
  go_upto_region 1 with (fail)
  have B1 : Hid (Box (w.alloc (.cells #[.slice ap f.params.length cp, .int .i64 f.arrays, .int .i64 f.cells, .slice ab f.blocks.length cb] 30)) (w.heap.size) #[.slice ap f.params.length cp, .int .i64 f.arrays, .int .i64 f.cells, .slice ab f.blocks.length cb]) := Lib.hid (by simpa using (Box.new w #[.slice ap f.params.length cp, .int .i64 f.arrays, .int .i64 f.cells, .slice ab f.blocks.length cb] 30))
  have HW : Hid (Below w.heap.size w (w.alloc (.cells #[.slice ap f.params.length cp, .int .i64 f.arrays, .int .i64 f.cells, .slice ab f.blocks.length cb] 30))) := Lib.hid ((Below.refl _ _).alloc (Nat.le_refl _) _)
  generalize (w.alloc (.cells #[.slice ap f.params.length cp, .int .i64 f.arrays, .int .i64 f.cells, .slice ab f.blocks.length cb] 30)) = wv at *
  obtain ⟨lB1, cB1, fB1⟩ := B1.out
  go_wp2_with fail
  refine (irOpen (HV.out.below HW.out)).mono ?_
  rintro e w2 ⟨hb, m, rfl, _, _⟩
  have HB := Lib.hid (HW.out.trans (hb.mono HW.out.size))
  clear hb
  go_wp2
  go_ret
  exact ⟨rfl, HB.out⟩
def sizeA (f : FuncD) : Int := if checkF f = 0 then sizeF f else 0
set_option maxHeartbeats 3200000 in
theorem irSize {w : World} {v : Value} {f : FuncD} (hv : FuncV w v f) : Calls Try.prog 52 #[v] w fun e w' => e = .returned (.tuple #[.int .i64 (sizeA f), .int .i64 (checkF f)]) ∧ Below w.heap.size w w' := by
  have HV := Lib.hid hv
  obtain ⟨a, b, rfl, hp, ha, hc, hB⟩ := hv
  obtain ⟨ap, cp, rfl⟩ := hp.form
  obtain ⟨ab, cb, rfl⟩ := hB.form
  have HBB := Lib.hid hB
  have HLN : Hid (checkF f = 0 → f.blocks.length ≤ 512) := Lib.hid (fun h => by
    unfold checkF at h
    split at h
    · rename_i h2
      simp only [Bool.and_eq_true] at h2
      have h3 := h2.1
      unfold formB headOk at h3
      simp only [Bool.and_eq_true, decide_eq_true_eq] at h3
      exact h3.1.1.1.2
    · cases h)
  clear hp ha hc hB
  go_enter Try.func52, Try.ntmps52
  go_upto_region 1 with (fail)
  have B1 : Hid (Box (w.alloc (.cells #[.slice ap f.params.length cp, .int .i64 f.arrays, .int .i64 f.cells, .slice ab f.blocks.length cb] 30)) (w.heap.size) #[.slice ap f.params.length cp, .int .i64 f.arrays, .int .i64 f.cells, .slice ab f.blocks.length cb]) := Lib.hid (by simpa using (Box.new w #[.slice ap f.params.length cp, .int .i64 f.arrays, .int .i64 f.cells, .slice ab f.blocks.length cb] 30))
  have HW : Hid (Below w.heap.size w (w.alloc (.cells #[.slice ap f.params.length cp, .int .i64 f.arrays, .int .i64 f.cells, .slice ab f.blocks.length cb] 30))) := Lib.hid ((Below.refl _ _).alloc (Nat.le_refl _) _)
  generalize (w.alloc (.cells #[.slice ap f.params.length cp, .int .i64 f.arrays, .int .i64 f.cells, .slice ab f.blocks.length cb] 30)) = wv at *
  obtain ⟨lB1, cB1, fB1⟩ := B1.out
  go_wp2_with fail
  refine (irCheck (HV.out.below HW.out)).mono ?_
  rintro e w2 ⟨rfl, hb⟩
  clear lB1 cB1 fB1
  replace B1 := Lib.hid (B1.out.later hb)
  replace HW := Lib.hid (HW.out.trans (hb.mono HW.out.size))
  clear hb
  obtain ⟨lB1, cB1, fB1⟩ := B1.out
  cases hc0 : (checkF f == 0)
  · have hc1 : (checkF f != 0) = true := by simp [bne, hc0]
    have HC0 := Lib.hid hc0
    go_wp2
    go_ret2
    exact ⟨by rw [show sizeA f = 0 from if_neg (by simpa using HC0.out)]; rfl, HW.out⟩
  · have hc1 : (checkF f != 0) = false := by simp [bne, hc0]
    have HC0 := Lib.hid hc0
    have HC1 : Hid (checkF f = 0) := Lib.hid (by simpa using HC0.out)
    go_wp2_with fail
    have hA := (Below.refl w2.heap.size w2).alloc (Nat.le_refl _) (.cells #[.slice ap f.params.length cp, .int .i64 f.arrays, .int .i64 f.cells, .slice ab f.blocks.length cb, .map none] 130)
    refine (chkSize (bs := f.blocks) (vb := .slice ab f.blocks.length cb) ((Box.new w2 _ _).at 3 rfl) (HBB.out.below BlockR.lasting (HW.out.trans (hA.mono HW.out.size))) (HLN.out HC1.out)).mono ?_
    rintro e w3 ⟨rfl, hb3⟩
    have HB3 := Lib.hid (HW.out.trans ((hA.trans (hb3.mono hA.size)).mono HW.out.size))
    clear hA hb3
    go_wp2
    go_ret2
    exact ⟨by rw [show sizeA f = sizeF f from if_pos HC1.out, HC1.out]; rfl, HB3.out⟩
end Go.Proofs.Ytefpmjnimnmniaa
namespace Go.Proofs.Ytefpmjnimnmniaa
set_option linter.unusedSimpArgs false
set_option linter.unusedVariables false
open Go.RowKit
theorem list_eq {xs ys : List Int} (hl : xs.length = ys.length) (h : ∀ j, j < xs.length → xs.getD j 0 = ys.getD j 0) : xs = ys := by
  apply List.ext_getElem hl
  intro i h1 h2
  have := h i h1
  simpa [List.getD_eq_getElem?_getD, h1, h2] using this
def simplest : FuncD := ⟨[], 0, 0, [⟨[], [⟨1, 0, [], 5⟩], ⟨3, 0, [], 0⟩⟩]⟩
theorem ints_nil {W : World} : Ints W (.slice none 0 0) [] := ⟨Row.nil, by simp⟩
theorem simplest_val {W : World} {bi bb : Nat} (hi : Box W bi #[.int .i64 1, .int .i64 0, .slice none 0 0, .int .i64 5]) (hb : Box W bb #[.slice none 0 0, .slice (some ⟨bi, 0, none⟩) 1 1, .int .i64 3, .int .i64 0, .slice none 0 0, .int .i64 0]) :
    FuncV W (.agg #[.slice none 0 0, .int .i64 0, .int .i64 0, .slice (some ⟨bb, 0, none⟩) 1 1]) simplest := by
  refine ⟨_, _, rfl, ints_nil, ⟨by decide, by decide⟩, ⟨by decide, by decide⟩, _, Row.of_box (n := 1) (size := 6) hb rfl (by omega), fun j x hj => ?_⟩
  obtain rfl : j = 0 := by have := (List.getElem?_eq_some_iff.1 hj).1; simp [simplest] at this; omega
  simp [simplest] at hj
  subst hj
  refine ⟨_, _, _, rfl, SliceOf.nil, ⟨_, Row.of_box (n := 1) (size := 4) hi rfl (by omega), fun j x hj => ?_⟩, _, rfl, ints_nil, ⟨by decide, by decide⟩, ⟨by decide, by decide⟩, by decide, by decide⟩
  obtain rfl : j = 0 := by have := (List.getElem?_eq_some_iff.1 hj).1; simp at this; omega
  simp at hj
  subst hj
  exact ⟨_, rfl, ints_nil, ⟨by decide, by decide⟩, ⟨by decide, by decide⟩, by decide, by decide⟩
theorem simplest_ok : checkF simplest = 0 ∧ sizeA simplest = 2 := by
  constructor <;> decide
end Go.Proofs.Ytefpmjnimnmniaa
namespace Go.Proofs.Ytefpmjnimnmniaa
set_option linter.unusedSimpArgs false
set_option linter.unusedVariables false
open Go.RowKit
theorem FuncV.form {W : World} {v : Value} {f : FuncD} (hv : FuncV W v f) : ∃ ap cp ab cb, v = .agg #[.slice ap f.params.length cp, .int .i64 f.arrays, .int .i64 f.cells, .slice ab f.blocks.length cb] ∧ Ints W (.slice ap f.params.length cp) f.params ∧ In64 f.arrays ∧ In64 f.cells ∧ SliceOf BlockR 6 W (.slice ab f.blocks.length cb) f.blocks := by
  obtain ⟨a, b, rfl, hp, ha, hc, hB⟩ := hv
  obtain ⟨ap, cp, rfl⟩ := hp.form
  obtain ⟨ab, cb, rfl⟩ := hB.form
  exact ⟨ap, cp, ab, cb, rfl, hp, ha, hc, hB⟩
end Go.Proofs.Ytefpmjnimnmniaa
