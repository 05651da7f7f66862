/- What the claim needs, part 10. -/
import Derived.Test.YtefpmjnimnmniaaH9
namespace Go.Proofs.Ytefpmjnimnmniaa
set_option linter.unusedSimpArgs false
set_option linter.unusedVariables false
open Go.RowKit
theorem parT_snoc (ps : List Int) (j : Nat) (t : Int) (h : ps[j]? = some t) : parT (ps.take (j + 1)) = parT (ps.take j) ++ [((j : Int), t)] := by
  have hj := (List.getElem?_eq_some_iff.1 h).1
  unfold parT
  rw [List.take_add_one, h, Option.toList_some, List.zipIdx_append, List.map_append]
  simp [List.length_take, Nat.min_eq_left (Nat.le_of_lt hj)]
theorem parT_new (ps : List Int) (j : Nat) : tyOf (parT (ps.take j)) j = none := by
  rw [tyOf_none, parT_keys]
  simp only [List.mem_map, List.mem_range, not_exists, not_and, List.length_take]
  intro i hi e; omega
theorem formM_head {f : FuncD} (h : headOk f = true) : formM f = if f.params.all parOk then f.blocks.zipIdx.foldlM (blockM f.params.length f.blocks.length f.arrays f.cells) (parT f.params) else none := by
  unfold formM; rw [h, Bool.true_and]
theorem formM_nohead {f : FuncD} (h : headOk f = false) : formM f = none := by
  unfold formM; rw [h]; rfl
set_option maxHeartbeats 6400000 in
set_option maxRecDepth 100000 in
theorem formedNo {w : World} {f : FuncD} {bc bm : Nat} {ap ab : Option Addr} {cp cb np nb : Nat} (hb : Box w bc (chk (.slice ap np cp) (.slice ab nb cb) f.arrays f.cells bm)) (hnp : np = f.params.length) (hnb : nb = f.blocks.length)
    (hB : SliceOf BlockR 6 w (.slice ab nb cb) f.blocks) (hno : headOk f = false) :
    Calls Try.prog 100 #[.pointer (some ⟨bc, 0, none⟩)] w fun e w' => e = .returned (.bool false) ∧ Below w.heap.size w w' := by
  have c0 := hb.at 0 (v := .slice ap np cp) rfl
  have c1 := hb.at 1 (v := .int .i64 f.arrays) rfl
  have c2 := hb.at 2 (v := .int .i64 f.cells) rfl
  have c3 := hb.at 3 (v := .slice ab nb cb) rfl
  have HB := Lib.hid hB
  have hsz := sizeB_le hB
  have hways : 16 < np ∨ (np ≤ 16 ∧ f.arrays < 0) ∨ (np ≤ 16 ∧ 0 ≤ f.arrays ∧ 8 < f.arrays) ∨ (np ≤ 16 ∧ 0 ≤ f.arrays ∧ f.arrays ≤ 8 ∧ f.cells < 0) ∨ (np ≤ 16 ∧ 0 ≤ f.arrays ∧ f.arrays ≤ 8 ∧ 0 ≤ f.cells ∧ 64 < f.cells) ∨
      (np ≤ 16 ∧ 0 ≤ f.arrays ∧ f.arrays ≤ 8 ∧ 0 ≤ f.cells ∧ f.cells ≤ 64 ∧ nb < 1) ∨ (np ≤ 16 ∧ 0 ≤ f.arrays ∧ f.arrays ≤ 8 ∧ 0 ≤ f.cells ∧ f.cells ≤ 64 ∧ 1 ≤ nb ∧ 512 < nb) ∨
      (np ≤ 16 ∧ 0 ≤ f.arrays ∧ f.arrays ≤ 8 ∧ 0 ≤ f.cells ∧ f.cells ≤ 64 ∧ 1 ≤ nb ∧ nb ≤ 512 ∧ 4096 < sizeF f) := by
    rw [hnp, hnb]
    by_cases h1 : 16 < f.params.length
    · exact .inl h1
    · by_cases h2 : f.arrays < 0
      · exact .inr (.inl ⟨by omega, h2⟩)
      · by_cases h3 : 8 < f.arrays
        · exact .inr (.inr (.inl ⟨by omega, by omega, h3⟩))
        · by_cases h4 : f.cells < 0
          · exact .inr (.inr (.inr (.inl ⟨by omega, by omega, by omega, h4⟩)))
          · by_cases h5 : 64 < f.cells
            · exact .inr (.inr (.inr (.inr (.inl ⟨by omega, by omega, by omega, by omega, h5⟩))))
            · by_cases h6 : f.blocks.length < 1
              · exact .inr (.inr (.inr (.inr (.inr (.inl ⟨by omega, by omega, by omega, by omega, by omega, h6⟩)))))
              · by_cases h7 : 512 < f.blocks.length
                · exact .inr (.inr (.inr (.inr (.inr (.inr (.inl ⟨by omega, by omega, by omega, by omega, by omega, by omega, h7⟩))))))
                · refine .inr (.inr (.inr (.inr (.inr (.inr (.inr ⟨by omega, by omega, by omega, by omega, by omega, by omega, by omega, ?_⟩))))))
                  unfold headOk at hno
                  simp at hno
                  have := hno (by omega) (by omega) (by omega) (by omega) (by omega) (by omega) (by omega)
                  omega
  have C3 := Lib.hid c3
  clear hno hb hsz hB
  have HNB := Lib.hid hnb
  clear hnb hnp
  have HSF : Hid ((f.blocks.map sizeB).sum = sizeF f) := Lib.hid rfl
  generalize f.arrays = ar at *
  generalize f.cells = ce at *
  generalize sizeF f = sz at *
  rcases hways with h | ⟨h1, h⟩ | ⟨h1, h2, h⟩ | ⟨h1, h2, h3, h⟩ | ⟨h1, h2, h3, h4, h⟩ | ⟨h1, h2, h3, h4, h5, h⟩ | ⟨h1, h2, h3, h4, h5, h6, h⟩ | ⟨h1, h2, h3, h4, h5, h6, h7, h⟩
  all_goals
    go_enter Try.func100, Try.ntmps100
    go_wp2_with (go_at_call 86; refine (chkSize C3.out HB.out (by rw [← HNB.out]; assumption)).mono ?_; rintro e w1 ⟨rfl, hb1⟩; have HB1 := Lib.hid hb1; clear hb1; rw [HSF.out])
    go_ret
    first | exact ⟨rfl, HB1.out⟩ | exact ⟨rfl, Below.refl _ _⟩
end Go.Proofs.Ytefpmjnimnmniaa
