/- The reference's formed. -/
import Derived.Test.YtefpmjnimnmniaaRefI5
namespace Go.Proofs.Ytefpmjnimnmniaa
set_option linter.unusedSimpArgs false
set_option linter.unusedVariables false
open Go.RowKit

theorem head_ways {f : FuncD} (hno : headOk f = false) : 16 < f.params.length ∨ (f.params.length ≤ 16 ∧ f.arrays < 0) ∨ (f.params.length ≤ 16 ∧ 0 ≤ f.arrays ∧ 8 < f.arrays) ∨ (f.params.length ≤ 16 ∧ 0 ≤ f.arrays ∧ f.arrays ≤ 8 ∧ f.cells < 0) ∨ (f.params.length ≤ 16 ∧ 0 ≤ f.arrays ∧ f.arrays ≤ 8 ∧ 0 ≤ f.cells ∧ 64 < f.cells) ∨
      (f.params.length ≤ 16 ∧ 0 ≤ f.arrays ∧ f.arrays ≤ 8 ∧ 0 ≤ f.cells ∧ f.cells ≤ 64 ∧ f.blocks.length < 1) ∨ (f.params.length ≤ 16 ∧ 0 ≤ f.arrays ∧ f.arrays ≤ 8 ∧ 0 ≤ f.cells ∧ f.cells ≤ 64 ∧ 1 ≤ f.blocks.length ∧ 512 < f.blocks.length) ∨
      (f.params.length ≤ 16 ∧ 0 ≤ f.arrays ∧ f.arrays ≤ 8 ∧ 0 ≤ f.cells ∧ f.cells ≤ 64 ∧ 1 ≤ f.blocks.length ∧ f.blocks.length ≤ 512 ∧ 4096 < sizeF f) := by
  by_cases h1 : 16 < f.params.length
  · exact .inl h1
  · by_cases h2 : f.arrays < 0
    · exact .inr (.inl ⟨by omega, h2⟩)
    · by_cases h3 : 8 < f.arrays
      · exact .inr (.inr (.inl ⟨by omega, by omega, h3⟩))
      · by_cases h4 : f.cells < 0
        · exact .inr (.inr (.inr (.inl ⟨by omega, by omega, by omega, h4⟩)))
        · by_cases h5 : 64 < f.cells
          · exact .inr (.inr (.inr (.inr (.inl ⟨by omega, by omega, by omega, by omega, h5⟩))))
          · by_cases h6 : f.blocks.length < 1
            · exact .inr (.inr (.inr (.inr (.inr (.inl ⟨by omega, by omega, by omega, by omega, by omega, h6⟩)))))
            · by_cases h7 : 512 < f.blocks.length
              · exact .inr (.inr (.inr (.inr (.inr (.inr (.inl ⟨by omega, by omega, by omega, by omega, by omega, by omega, h7⟩))))))
              · refine .inr (.inr (.inr (.inr (.inr (.inr (.inr ⟨by omega, by omega, by omega, by omega, by omega, by omega, by omega, ?_⟩))))))
                unfold headOk at hno
                simp at hno
                have := hno (by omega) (by omega) (by omega) (by omega) (by omega) (by omega) (by omega)
                omega

set_option maxHeartbeats 6400000 in
set_option maxRecDepth 100000 in
theorem refFormedNo {w : World} {v : Value} {f : FuncD} (hv : FuncV w v f) (hno : headOk f = false) :
    Calls Try.prog 67 #[v] w fun e w' => e = .returned (.bool false) ∧ Below w.heap.size w w' := by
  have HV := Lib.hid hv
  obtain ⟨ap, cp, ab, cb, rfl, hp, ha, hc, hB⟩ := hv.form
  have hways := head_ways hno
  clear hno hp ha hc hB hv
  obtain ⟨np, hnp⟩ : ∃ np, np = f.params.length := ⟨_, rfl⟩
  obtain ⟨nb, hnb⟩ : ∃ nb, nb = f.blocks.length := ⟨_, rfl⟩
  obtain ⟨ar, har⟩ : ∃ ar, ar = f.arrays := ⟨_, rfl⟩
  obtain ⟨ce, hce⟩ : ∃ ce, ce = f.cells := ⟨_, rfl⟩
  obtain ⟨sz, hsz⟩ : ∃ sz, sz = sizeF f := ⟨_, rfl⟩
  rw [← hnp, ← hnb, ← har, ← hce] at HV hways ⊢
  rw [← hsz] at hways
  have HNB := Lib.hid hnb
  have HSF := Lib.hid hsz
  clear hnp hnb har hce hsz
  rcases hways with h | ⟨h1, h⟩ | ⟨h1, h2, h⟩ | ⟨h1, h2, h3, h⟩ | ⟨h1, h2, h3, h4, h⟩ | ⟨h1, h2, h3, h4, h5, h⟩ | ⟨h1, h2, h3, h4, h5, h6, h⟩ | ⟨h1, h2, h3, h4, h5, h6, h7, h⟩
  all_goals
    go_enter Try.func67, Try.ntmps67
    go_upto_region 1 with (fail)
    have B1 : Hid (Box (w.alloc (.cells #[.slice ap np cp, .int .i64 ar, .int .i64 ce, .slice ab nb cb] 30)) (w.heap.size) #[.slice ap np cp, .int .i64 ar, .int .i64 ce, .slice ab nb cb]) := Lib.hid (by simpa using (Box.new w #[.slice ap np cp, .int .i64 ar, .int .i64 ce, .slice ab nb cb] 30))
    have HW : Hid (Below w.heap.size w (w.alloc (.cells #[.slice ap np cp, .int .i64 ar, .int .i64 ce, .slice ab nb cb] 30))) := Lib.hid ((Below.refl _ _).alloc (Nat.le_refl _) _)
    generalize (w.alloc (.cells #[.slice ap np cp, .int .i64 ar, .int .i64 ce, .slice ab nb cb] 30)) = wv at *
    obtain ⟨lB1, cB1, fB1⟩ := B1.out
    go_wp2_with (go_at_call 57; refine (refSize (HV.out.below HW.out) (by rw [← HNB.out]; assumption)).mono ?_; rintro e w1 ⟨rfl, hb1⟩; have HB1 := Lib.hid (HW.out.trans (hb1.mono HW.out.size)); clear hb1; rw [← HSF.out])
    go_ret
    first | exact ⟨rfl, HB1.out⟩ | exact ⟨rfl, HW.out⟩

end Go.Proofs.Ytefpmjnimnmniaa
