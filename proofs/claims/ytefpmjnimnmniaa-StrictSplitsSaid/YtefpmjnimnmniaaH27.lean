/- What the claim needs, part 27. -/
import Derived.Test.YtefpmjnimnmniaaH26
import Derived.Test.YtefpmjnimnmniaaH22
namespace Go.Proofs.Ytefpmjnimnmniaa
set_option linter.unusedSimpArgs false
set_option linter.unusedVariables false
open Go.RowKit
set_option maxHeartbeats 25600000 in
set_option maxRecDepth 100000 in
theorem graphSplit {w : World} {v : Value} {f : FuncD} {b k : Int} (hv : FuncV w v f) (hb64 : In64 b) (hk64 : In64 k) : Calls Try.prog 42 #[v, .int .i64 b, .int .i64 k] w (SplitR f b k w) := by
  have HV := Lib.hid hv
  obtain ⟨ap, cp, ab, cb, rfl, hp, ha, hc, hB⟩ := hv.form
  obtain ⟨a2, c2, bb, bo, hbe, hbc, hbm, hbl, hba, hbx⟩ := blocks_parts hB
  cases hbe
  obtain ⟨np, hnp⟩ : ∃ np, np = f.params.length := ⟨_, rfl⟩
  obtain ⟨ar, har⟩ : ∃ ar, ar = f.arrays := ⟨_, rfl⟩
  obtain ⟨ce, hce⟩ : ∃ ce, ce = f.cells := ⟨_, rfl⟩
  obtain ⟨nb, hnb⟩ : ∃ nb, nb = f.blocks.length := ⟨_, rfl⟩
  rw [← hnb, ← hnp, ← har, ← hce] at HV
  rw [← hnb] at hbc hba hbl
  rw [← hnb, ← hnp, ← har, ← hce]
  have HNB := Lib.hid hnb
  have HNP := Lib.hid hnp
  have HAC : Hid (ar = f.arrays ∧ ce = f.cells) := Lib.hid ⟨har, hce⟩
  have HBA := Lib.hid hba
  have HBX := Lib.hid hbx
  have HA64 := Lib.hid (And.intro ha hc)
  clear hp ha hc hB hv hbx hnp hnb hba har hce
  go_enter Try.func42, Try.ntmps42
  go_upto_region 1 with (fail)
  have B1 : Hid (Box ((w.alloc (.cells #[.slice ap np cp, .int .i64 ar, .int .i64 ce, .slice ab nb cb] 30)).alloc (.cells #[.slice none 0 0, .int .i64 0, .int .i64 0, .slice none 0 0] 30)) (w.heap.size) #[.slice ap np cp, .int .i64 ar, .int .i64 ce, .slice ab nb cb]) := Lib.hid (by simpa using ((Box.new w #[.slice ap np cp, .int .i64 ar, .int .i64 ce, .slice ab nb cb] 30).alloc _))
  have B2 : Hid (Box ((w.alloc (.cells #[.slice ap np cp, .int .i64 ar, .int .i64 ce, .slice ab nb cb] 30)).alloc (.cells #[.slice none 0 0, .int .i64 0, .int .i64 0, .slice none 0 0] 30)) (w.heap.size + 1) #[.slice none 0 0, .int .i64 0, .int .i64 0, .slice none 0 0]) := Lib.hid (by simpa using (Box.new (w.alloc (.cells #[.slice ap np cp, .int .i64 ar, .int .i64 ce, .slice ab nb cb] 30)) #[.slice none 0 0, .int .i64 0, .int .i64 0, .slice none 0 0] 30))
  have HW : Hid (Below w.heap.size w ((w.alloc (.cells #[.slice ap np cp, .int .i64 ar, .int .i64 ce, .slice ab nb cb] 30)).alloc (.cells #[.slice none 0 0, .int .i64 0, .int .i64 0, .slice none 0 0] 30))) := Lib.hid (((Below.refl _ _).alloc (Nat.le_refl _) _).alloc (by simp) _)
  generalize ((w.alloc (.cells #[.slice ap np cp, .int .i64 ar, .int .i64 ce, .slice ab nb cb] 30)).alloc (.cells #[.slice none 0 0, .int .i64 0, .int .i64 0, .slice none 0 0] 30)) = wv at *
  obtain ⟨lB1, cB1, fB1⟩ := B1.out
  obtain ⟨lB2, cB2, fB2⟩ := B2.out
  go_wp2_with fail
  refine (irCheck (HV.out.below HW.out)).mono ?_
  rintro e w1 ⟨rfl, hb⟩
  clear lB1 cB1 fB1 lB2 cB2 fB2
  replace B1 := Lib.hid (B1.out.later hb)
  replace B2 := Lib.hid (B2.out.later hb)
  replace HW := Lib.hid (HW.out.trans (hb.mono HW.out.size))
  clear hb
  obtain ⟨lB1, cB1, fB1⟩ := B1.out
  obtain ⟨lB2, cB2, fB2⟩ := B2.out
  by_cases hc0 : checkF f = 0
  rotate_left
  · have HWHY : Hid (splitF f b k = (zeroF, checkF f)) := Lib.hid (splitF_bad hc0)
    have hc1 : (checkF f != 0) = true := by simpa using hc0
    clear hc0
    go_wp2
    have B1_ : Box ((((w1.setCell ⟨w.heap.size + 1, 0, none⟩ (.slice none 0 0)).setCell ⟨w.heap.size + 1, 1, none⟩ (.int .i64 0)).setCell ⟨w.heap.size + 1, 2, none⟩ (.int .i64 0)).setCell ⟨w.heap.size + 1, 3, none⟩ (.slice none 0 0)) (w.heap.size) #[.slice ap np cp, .int .i64 ar, .int .i64 ce, .slice ab nb cb] := by simpa using ((((B1.out.other (p := ⟨w.heap.size + 1, 0, none⟩) (.slice none 0 0) (by first | assumption | (simp; done) | omega | (dsimp only; omega))).other (p := ⟨w.heap.size + 1, 1, none⟩) (.int .i64 0) (by first | assumption | (simp; done) | omega | (dsimp only; omega))).other (p := ⟨w.heap.size + 1, 2, none⟩) (.int .i64 0) (by first | assumption | (simp; done) | omega | (dsimp only; omega))).other (p := ⟨w.heap.size + 1, 3, none⟩) (.slice none 0 0) (by first | assumption | (simp; done) | omega | (dsimp only; omega)))
    have B2_ : Box ((((w1.setCell ⟨w.heap.size + 1, 0, none⟩ (.slice none 0 0)).setCell ⟨w.heap.size + 1, 1, none⟩ (.int .i64 0)).setCell ⟨w.heap.size + 1, 2, none⟩ (.int .i64 0)).setCell ⟨w.heap.size + 1, 3, none⟩ (.slice none 0 0)) (w.heap.size + 1) #[(.slice none 0 0), (.int .i64 0), (.int .i64 0), (.slice none 0 0)] := by simpa using ((((B2.out.set 0 (.slice none 0 0)).set 1 (.int .i64 0)).set 2 (.int .i64 0)).set 3 (.slice none 0 0))
    have HW_ : Below w.heap.size w ((((w1.setCell ⟨w.heap.size + 1, 0, none⟩ (.slice none 0 0)).setCell ⟨w.heap.size + 1, 1, none⟩ (.int .i64 0)).setCell ⟨w.heap.size + 1, 2, none⟩ (.int .i64 0)).setCell ⟨w.heap.size + 1, 3, none⟩ (.slice none 0 0)) := ((((HW.out.setCell (p := ⟨w.heap.size + 1, 0, none⟩) (by first | assumption | omega | (dsimp only; omega) | (have := HW.out.size; omega) | (simp; done) | (simp; omega)) (.slice none 0 0)).setCell (p := ⟨w.heap.size + 1, 1, none⟩) (by first | assumption | omega | (dsimp only; omega) | (have := HW.out.size; omega) | (simp; done) | (simp; omega)) (.int .i64 0)).setCell (p := ⟨w.heap.size + 1, 2, none⟩) (by first | assumption | omega | (dsimp only; omega) | (have := HW.out.size; omega) | (simp; done) | (simp; omega)) (.int .i64 0)).setCell (p := ⟨w.heap.size + 1, 3, none⟩) (by first | assumption | omega | (dsimp only; omega) | (have := HW.out.size; omega) | (simp; done) | (simp; omega)) (.slice none 0 0))
    clear lB1 cB1 fB1 lB2 cB2 fB2
    clear B1 B2 HW
    generalize ((((w1.setCell ⟨w.heap.size + 1, 0, none⟩ (.slice none 0 0)).setCell ⟨w.heap.size + 1, 1, none⟩ (.int .i64 0)).setCell ⟨w.heap.size + 1, 2, none⟩ (.int .i64 0)).setCell ⟨w.heap.size + 1, 3, none⟩ (.slice none 0 0)) = wz at *
    have B1 := Lib.hid B1_
    clear B1_
    have B2 := Lib.hid B2_
    clear B2_
    have HW := Lib.hid HW_
    clear HW_
    obtain ⟨lB1, cB1, fB1⟩ := B1.out
    obtain ⟨lB2, cB2, fB2⟩ := B2.out
    refine bodyPost_ret (v := .tuple #[.agg #[.slice none 0 0, .int .i64 0, .int .i64 0, .slice none 0 0], .int .i64 (checkF f)]) (by simp [results, Try.results42, go_sem, *]) rfl ⟨_, Foot.none, by rw [HWHY.out], by rw [HWHY.out]; exact OFunc.zero, fun _ h => h.elim, HW.out⟩
  have HC0 := Lib.hid hc0
  have hc1 : (checkF f != 0) = false := by simpa using hc0
  have HF := Lib.hid (check_fine hc0).1
  obtain ⟨hn1, h512⟩ := formB_nb HF.out
  rw [← HNB.out] at hn1 h512
  have HSZ := Lib.hid (block_sizes hc0)
  obtain ⟨rfl, hbw⟩ := HBA.out (by omega)

  clear hc0
  cases hq1 : decide (b < 0)
  rotate_left
  · have HWHY : Hid (splitF f b k = (zeroF, 9)) := Lib.hid (splitF_none HC0.out (.inl (by simpa using hq1)))
    go_wp2
    have B1_ : Box ((((w1.setCell ⟨w.heap.size + 1, 0, none⟩ (.slice none 0 0)).setCell ⟨w.heap.size + 1, 1, none⟩ (.int .i64 0)).setCell ⟨w.heap.size + 1, 2, none⟩ (.int .i64 0)).setCell ⟨w.heap.size + 1, 3, none⟩ (.slice none 0 0)) (w.heap.size) #[.slice ap np cp, .int .i64 ar, .int .i64 ce, .slice (some ⟨bb, bo, none⟩) nb cb] := by simpa using ((((B1.out.other (p := ⟨w.heap.size + 1, 0, none⟩) (.slice none 0 0) (by first | assumption | (simp; done) | omega | (dsimp only; omega))).other (p := ⟨w.heap.size + 1, 1, none⟩) (.int .i64 0) (by first | assumption | (simp; done) | omega | (dsimp only; omega))).other (p := ⟨w.heap.size + 1, 2, none⟩) (.int .i64 0) (by first | assumption | (simp; done) | omega | (dsimp only; omega))).other (p := ⟨w.heap.size + 1, 3, none⟩) (.slice none 0 0) (by first | assumption | (simp; done) | omega | (dsimp only; omega)))
    have B2_ : Box ((((w1.setCell ⟨w.heap.size + 1, 0, none⟩ (.slice none 0 0)).setCell ⟨w.heap.size + 1, 1, none⟩ (.int .i64 0)).setCell ⟨w.heap.size + 1, 2, none⟩ (.int .i64 0)).setCell ⟨w.heap.size + 1, 3, none⟩ (.slice none 0 0)) (w.heap.size + 1) #[(.slice none 0 0), (.int .i64 0), (.int .i64 0), (.slice none 0 0)] := by simpa using ((((B2.out.set 0 (.slice none 0 0)).set 1 (.int .i64 0)).set 2 (.int .i64 0)).set 3 (.slice none 0 0))
    have HW_ : Below w.heap.size w ((((w1.setCell ⟨w.heap.size + 1, 0, none⟩ (.slice none 0 0)).setCell ⟨w.heap.size + 1, 1, none⟩ (.int .i64 0)).setCell ⟨w.heap.size + 1, 2, none⟩ (.int .i64 0)).setCell ⟨w.heap.size + 1, 3, none⟩ (.slice none 0 0)) := ((((HW.out.setCell (p := ⟨w.heap.size + 1, 0, none⟩) (by first | assumption | omega | (dsimp only; omega) | (have := HW.out.size; omega) | (simp; done) | (simp; omega)) (.slice none 0 0)).setCell (p := ⟨w.heap.size + 1, 1, none⟩) (by first | assumption | omega | (dsimp only; omega) | (have := HW.out.size; omega) | (simp; done) | (simp; omega)) (.int .i64 0)).setCell (p := ⟨w.heap.size + 1, 2, none⟩) (by first | assumption | omega | (dsimp only; omega) | (have := HW.out.size; omega) | (simp; done) | (simp; omega)) (.int .i64 0)).setCell (p := ⟨w.heap.size + 1, 3, none⟩) (by first | assumption | omega | (dsimp only; omega) | (have := HW.out.size; omega) | (simp; done) | (simp; omega)) (.slice none 0 0))
    clear lB1 cB1 fB1 lB2 cB2 fB2
    clear B1 B2 HW
    generalize ((((w1.setCell ⟨w.heap.size + 1, 0, none⟩ (.slice none 0 0)).setCell ⟨w.heap.size + 1, 1, none⟩ (.int .i64 0)).setCell ⟨w.heap.size + 1, 2, none⟩ (.int .i64 0)).setCell ⟨w.heap.size + 1, 3, none⟩ (.slice none 0 0)) = wz at *
    have B1 := Lib.hid B1_
    clear B1_
    have B2 := Lib.hid B2_
    clear B2_
    have HW := Lib.hid HW_
    clear HW_
    obtain ⟨lB1, cB1, fB1⟩ := B1.out
    obtain ⟨lB2, cB2, fB2⟩ := B2.out
    refine bodyPost_ret (v := .tuple #[.agg #[.slice none 0 0, .int .i64 0, .int .i64 0, .slice none 0 0], .int .i64 9]) (by simp [results, Try.results42, go_sem, *]) rfl ⟨_, Foot.none, by rw [HWHY.out], by rw [HWHY.out]; exact OFunc.zero, fun _ h => h.elim, HW.out⟩
  cases hq2 : decide ((nb : Int) ≤ b)
  rotate_left
  · have HWHY : Hid (splitF f b k = (zeroF, 9)) := Lib.hid (splitF_none HC0.out (.inr (.inl (by rw [← HNB.out]; simpa using hq2))))
    go_wp2
    have B1_ : Box ((((w1.setCell ⟨w.heap.size + 1, 0, none⟩ (.slice none 0 0)).setCell ⟨w.heap.size + 1, 1, none⟩ (.int .i64 0)).setCell ⟨w.heap.size + 1, 2, none⟩ (.int .i64 0)).setCell ⟨w.heap.size + 1, 3, none⟩ (.slice none 0 0)) (w.heap.size) #[.slice ap np cp, .int .i64 ar, .int .i64 ce, .slice (some ⟨bb, bo, none⟩) nb cb] := by simpa using ((((B1.out.other (p := ⟨w.heap.size + 1, 0, none⟩) (.slice none 0 0) (by first | assumption | (simp; done) | omega | (dsimp only; omega))).other (p := ⟨w.heap.size + 1, 1, none⟩) (.int .i64 0) (by first | assumption | (simp; done) | omega | (dsimp only; omega))).other (p := ⟨w.heap.size + 1, 2, none⟩) (.int .i64 0) (by first | assumption | (simp; done) | omega | (dsimp only; omega))).other (p := ⟨w.heap.size + 1, 3, none⟩) (.slice none 0 0) (by first | assumption | (simp; done) | omega | (dsimp only; omega)))
    have B2_ : Box ((((w1.setCell ⟨w.heap.size + 1, 0, none⟩ (.slice none 0 0)).setCell ⟨w.heap.size + 1, 1, none⟩ (.int .i64 0)).setCell ⟨w.heap.size + 1, 2, none⟩ (.int .i64 0)).setCell ⟨w.heap.size + 1, 3, none⟩ (.slice none 0 0)) (w.heap.size + 1) #[(.slice none 0 0), (.int .i64 0), (.int .i64 0), (.slice none 0 0)] := by simpa using ((((B2.out.set 0 (.slice none 0 0)).set 1 (.int .i64 0)).set 2 (.int .i64 0)).set 3 (.slice none 0 0))
    have HW_ : Below w.heap.size w ((((w1.setCell ⟨w.heap.size + 1, 0, none⟩ (.slice none 0 0)).setCell ⟨w.heap.size + 1, 1, none⟩ (.int .i64 0)).setCell ⟨w.heap.size + 1, 2, none⟩ (.int .i64 0)).setCell ⟨w.heap.size + 1, 3, none⟩ (.slice none 0 0)) := ((((HW.out.setCell (p := ⟨w.heap.size + 1, 0, none⟩) (by first | assumption | omega | (dsimp only; omega) | (have := HW.out.size; omega) | (simp; done) | (simp; omega)) (.slice none 0 0)).setCell (p := ⟨w.heap.size + 1, 1, none⟩) (by first | assumption | omega | (dsimp only; omega) | (have := HW.out.size; omega) | (simp; done) | (simp; omega)) (.int .i64 0)).setCell (p := ⟨w.heap.size + 1, 2, none⟩) (by first | assumption | omega | (dsimp only; omega) | (have := HW.out.size; omega) | (simp; done) | (simp; omega)) (.int .i64 0)).setCell (p := ⟨w.heap.size + 1, 3, none⟩) (by first | assumption | omega | (dsimp only; omega) | (have := HW.out.size; omega) | (simp; done) | (simp; omega)) (.slice none 0 0))
    clear lB1 cB1 fB1 lB2 cB2 fB2
    clear B1 B2 HW
    generalize ((((w1.setCell ⟨w.heap.size + 1, 0, none⟩ (.slice none 0 0)).setCell ⟨w.heap.size + 1, 1, none⟩ (.int .i64 0)).setCell ⟨w.heap.size + 1, 2, none⟩ (.int .i64 0)).setCell ⟨w.heap.size + 1, 3, none⟩ (.slice none 0 0)) = wz at *
    have B1 := Lib.hid B1_
    clear B1_
    have B2 := Lib.hid B2_
    clear B2_
    have HW := Lib.hid HW_
    clear HW_
    obtain ⟨lB1, cB1, fB1⟩ := B1.out
    obtain ⟨lB2, cB2, fB2⟩ := B2.out
    refine bodyPost_ret (v := .tuple #[.agg #[.slice none 0 0, .int .i64 0, .int .i64 0, .slice none 0 0], .int .i64 9]) (by simp [results, Try.results42, go_sem, *]) rfl ⟨_, Foot.none, by rw [HWHY.out], by rw [HWHY.out]; exact OFunc.zero, fun _ h => h.elim, HW.out⟩
  obtain ⟨bn, rfl⟩ : ∃ bn : Nat, b = bn := ⟨b.toNat, by simp at hq1; omega⟩
  have hbn : bn < nb := by simp at hq2; omega
  obtain ⟨x, hx⟩ : ∃ x, f.blocks[bn]? = some x := ⟨_, List.getElem?_eq_getElem (by have := HNB.out; omega)⟩
  obtain ⟨api, aii, ati, cpi, cii, cti, hC⟩ := HBX.out bn x hx
  have HX := Lib.hid hx
  have HTO := Lib.hid (formB_to HF.out hx)
  rw [← HNB.out] at HTO
  obtain ⟨k0, k1, k2, k3, k4, k5, -, -, -, -, -, -⟩ := hC.below HW.out hbw
  clear hC hx
  cases hq3 : decide (k < 0)
  rotate_left
  · have HWHY : Hid (splitF f bn k = (zeroF, 9)) := Lib.hid (splitF_none HC0.out (.inr (.inr (.inl (by simpa using hq3)))))
    go_wp2
    have B1_ : Box ((((w1.setCell ⟨w.heap.size + 1, 0, none⟩ (.slice none 0 0)).setCell ⟨w.heap.size + 1, 1, none⟩ (.int .i64 0)).setCell ⟨w.heap.size + 1, 2, none⟩ (.int .i64 0)).setCell ⟨w.heap.size + 1, 3, none⟩ (.slice none 0 0)) (w.heap.size) #[.slice ap np cp, .int .i64 ar, .int .i64 ce, .slice (some ⟨bb, bo, none⟩) nb cb] := by simpa using ((((B1.out.other (p := ⟨w.heap.size + 1, 0, none⟩) (.slice none 0 0) (by first | assumption | (simp; done) | omega | (dsimp only; omega))).other (p := ⟨w.heap.size + 1, 1, none⟩) (.int .i64 0) (by first | assumption | (simp; done) | omega | (dsimp only; omega))).other (p := ⟨w.heap.size + 1, 2, none⟩) (.int .i64 0) (by first | assumption | (simp; done) | omega | (dsimp only; omega))).other (p := ⟨w.heap.size + 1, 3, none⟩) (.slice none 0 0) (by first | assumption | (simp; done) | omega | (dsimp only; omega)))
    have B2_ : Box ((((w1.setCell ⟨w.heap.size + 1, 0, none⟩ (.slice none 0 0)).setCell ⟨w.heap.size + 1, 1, none⟩ (.int .i64 0)).setCell ⟨w.heap.size + 1, 2, none⟩ (.int .i64 0)).setCell ⟨w.heap.size + 1, 3, none⟩ (.slice none 0 0)) (w.heap.size + 1) #[(.slice none 0 0), (.int .i64 0), (.int .i64 0), (.slice none 0 0)] := by simpa using ((((B2.out.set 0 (.slice none 0 0)).set 1 (.int .i64 0)).set 2 (.int .i64 0)).set 3 (.slice none 0 0))
    have HW_ : Below w.heap.size w ((((w1.setCell ⟨w.heap.size + 1, 0, none⟩ (.slice none 0 0)).setCell ⟨w.heap.size + 1, 1, none⟩ (.int .i64 0)).setCell ⟨w.heap.size + 1, 2, none⟩ (.int .i64 0)).setCell ⟨w.heap.size + 1, 3, none⟩ (.slice none 0 0)) := ((((HW.out.setCell (p := ⟨w.heap.size + 1, 0, none⟩) (by first | assumption | omega | (dsimp only; omega) | (have := HW.out.size; omega) | (simp; done) | (simp; omega)) (.slice none 0 0)).setCell (p := ⟨w.heap.size + 1, 1, none⟩) (by first | assumption | omega | (dsimp only; omega) | (have := HW.out.size; omega) | (simp; done) | (simp; omega)) (.int .i64 0)).setCell (p := ⟨w.heap.size + 1, 2, none⟩) (by first | assumption | omega | (dsimp only; omega) | (have := HW.out.size; omega) | (simp; done) | (simp; omega)) (.int .i64 0)).setCell (p := ⟨w.heap.size + 1, 3, none⟩) (by first | assumption | omega | (dsimp only; omega) | (have := HW.out.size; omega) | (simp; done) | (simp; omega)) (.slice none 0 0))
    clear lB1 cB1 fB1 lB2 cB2 fB2
    clear B1 B2 HW
    generalize ((((w1.setCell ⟨w.heap.size + 1, 0, none⟩ (.slice none 0 0)).setCell ⟨w.heap.size + 1, 1, none⟩ (.int .i64 0)).setCell ⟨w.heap.size + 1, 2, none⟩ (.int .i64 0)).setCell ⟨w.heap.size + 1, 3, none⟩ (.slice none 0 0)) = wz at *
    have B1 := Lib.hid B1_
    clear B1_
    have B2 := Lib.hid B2_
    clear B2_
    have HW := Lib.hid HW_
    clear HW_
    obtain ⟨lB1, cB1, fB1⟩ := B1.out
    obtain ⟨lB2, cB2, fB2⟩ := B2.out
    refine bodyPost_ret (v := .tuple #[.agg #[.slice none 0 0, .int .i64 0, .int .i64 0, .slice none 0 0], .int .i64 9]) (by simp [results, Try.results42, go_sem, *]) rfl ⟨_, Foot.none, by rw [HWHY.out], by rw [HWHY.out]; exact OFunc.zero, fun _ h => h.elim, HW.out⟩
  cases hq4 : decide ((x.term.to.length : Int) ≤ k)
  rotate_left
  · have HWHY : Hid (splitF f bn k = (zeroF, 9)) := Lib.hid (splitF_none HC0.out (.inr (.inr (.inr ⟨x, HX.out, by simpa using hq4⟩))))
    go_wp2
    have B1_ : Box ((((w1.setCell ⟨w.heap.size + 1, 0, none⟩ (.slice none 0 0)).setCell ⟨w.heap.size + 1, 1, none⟩ (.int .i64 0)).setCell ⟨w.heap.size + 1, 2, none⟩ (.int .i64 0)).setCell ⟨w.heap.size + 1, 3, none⟩ (.slice none 0 0)) (w.heap.size) #[.slice ap np cp, .int .i64 ar, .int .i64 ce, .slice (some ⟨bb, bo, none⟩) nb cb] := by simpa using ((((B1.out.other (p := ⟨w.heap.size + 1, 0, none⟩) (.slice none 0 0) (by first | assumption | (simp; done) | omega | (dsimp only; omega))).other (p := ⟨w.heap.size + 1, 1, none⟩) (.int .i64 0) (by first | assumption | (simp; done) | omega | (dsimp only; omega))).other (p := ⟨w.heap.size + 1, 2, none⟩) (.int .i64 0) (by first | assumption | (simp; done) | omega | (dsimp only; omega))).other (p := ⟨w.heap.size + 1, 3, none⟩) (.slice none 0 0) (by first | assumption | (simp; done) | omega | (dsimp only; omega)))
    have B2_ : Box ((((w1.setCell ⟨w.heap.size + 1, 0, none⟩ (.slice none 0 0)).setCell ⟨w.heap.size + 1, 1, none⟩ (.int .i64 0)).setCell ⟨w.heap.size + 1, 2, none⟩ (.int .i64 0)).setCell ⟨w.heap.size + 1, 3, none⟩ (.slice none 0 0)) (w.heap.size + 1) #[(.slice none 0 0), (.int .i64 0), (.int .i64 0), (.slice none 0 0)] := by simpa using ((((B2.out.set 0 (.slice none 0 0)).set 1 (.int .i64 0)).set 2 (.int .i64 0)).set 3 (.slice none 0 0))
    have HW_ : Below w.heap.size w ((((w1.setCell ⟨w.heap.size + 1, 0, none⟩ (.slice none 0 0)).setCell ⟨w.heap.size + 1, 1, none⟩ (.int .i64 0)).setCell ⟨w.heap.size + 1, 2, none⟩ (.int .i64 0)).setCell ⟨w.heap.size + 1, 3, none⟩ (.slice none 0 0)) := ((((HW.out.setCell (p := ⟨w.heap.size + 1, 0, none⟩) (by first | assumption | omega | (dsimp only; omega) | (have := HW.out.size; omega) | (simp; done) | (simp; omega)) (.slice none 0 0)).setCell (p := ⟨w.heap.size + 1, 1, none⟩) (by first | assumption | omega | (dsimp only; omega) | (have := HW.out.size; omega) | (simp; done) | (simp; omega)) (.int .i64 0)).setCell (p := ⟨w.heap.size + 1, 2, none⟩) (by first | assumption | omega | (dsimp only; omega) | (have := HW.out.size; omega) | (simp; done) | (simp; omega)) (.int .i64 0)).setCell (p := ⟨w.heap.size + 1, 3, none⟩) (by first | assumption | omega | (dsimp only; omega) | (have := HW.out.size; omega) | (simp; done) | (simp; omega)) (.slice none 0 0))
    clear lB1 cB1 fB1 lB2 cB2 fB2
    clear B1 B2 HW
    generalize ((((w1.setCell ⟨w.heap.size + 1, 0, none⟩ (.slice none 0 0)).setCell ⟨w.heap.size + 1, 1, none⟩ (.int .i64 0)).setCell ⟨w.heap.size + 1, 2, none⟩ (.int .i64 0)).setCell ⟨w.heap.size + 1, 3, none⟩ (.slice none 0 0)) = wz at *
    have B1 := Lib.hid B1_
    clear B1_
    have B2 := Lib.hid B2_
    clear B2_
    have HW := Lib.hid HW_
    clear HW_
    obtain ⟨lB1, cB1, fB1⟩ := B1.out
    obtain ⟨lB2, cB2, fB2⟩ := B2.out
    refine bodyPost_ret (v := .tuple #[.agg #[.slice none 0 0, .int .i64 0, .int .i64 0, .slice none 0 0], .int .i64 9]) (by simp [results, Try.results42, go_sem, *]) rfl ⟨_, Foot.none, by rw [HWHY.out], by rw [HWHY.out]; exact OFunc.zero, fun _ h => h.elim, HW.out⟩
  obtain ⟨kn, rfl⟩ : ∃ kn : Nat, k = kn := ⟨k.toNat, by simp at hq3; omega⟩
  have hkn : kn < x.term.to.length := by simp at hq4; omega
  obtain ⟨q, hq⟩ : ∃ q, x.term.to[kn]? = some q := ⟨_, List.getElem?_eq_getElem hkn⟩
  obtain ⟨ht1, ht2⟩ := HTO.out q (List.mem_of_getElem? hq)
  obtain ⟨tn, rfl⟩ : ∃ tn : Nat, q = tn := ⟨q.toNat, by omega⟩
  have HQT := Lib.hid hq
  clear hq
  go_wp2_with fail
  clear k0 k1 k2 k3 k4 k5
  refine (irSize (HV.out.below HW.out)).mono ?_
  rintro e w2 ⟨rfl, hb⟩
  clear lB1 cB1 fB1 lB2 cB2 fB2
  replace B1 := Lib.hid (B1.out.later hb)
  replace B2 := Lib.hid (B2.out.later hb)
  replace HW := Lib.hid (HW.out.trans (hb.mono HW.out.size))
  clear hb
  obtain ⟨lB1, cB1, fB1⟩ := B1.out
  obtain ⟨lB2, cB2, fB2⟩ := B2.out
  obtain ⟨sz, hsz⟩ : ∃ sz, sz = sizeF f := ⟨_, rfl⟩
  rw [show sizeA f = sz from (if_pos HC0.out).trans hsz.symm]
  have HZ := Lib.hid hsz
  clear hsz
  cases hq5 : ((nb : Int) == 512)
  rotate_left
  · have HWHY : Hid (splitF f bn kn = (zeroF, 2)) := Lib.hid (splitF_full HC0.out HX.out hkn (.inl (by rw [← HNB.out]; simp at hq5; omega)))
    go_wp2
    have B1_ : Box ((((w2.setCell ⟨w.heap.size + 1, 0, none⟩ (.slice none 0 0)).setCell ⟨w.heap.size + 1, 1, none⟩ (.int .i64 0)).setCell ⟨w.heap.size + 1, 2, none⟩ (.int .i64 0)).setCell ⟨w.heap.size + 1, 3, none⟩ (.slice none 0 0)) (w.heap.size) #[.slice ap np cp, .int .i64 ar, .int .i64 ce, .slice (some ⟨bb, bo, none⟩) nb cb] := by simpa using ((((B1.out.other (p := ⟨w.heap.size + 1, 0, none⟩) (.slice none 0 0) (by first | assumption | (simp; done) | omega | (dsimp only; omega))).other (p := ⟨w.heap.size + 1, 1, none⟩) (.int .i64 0) (by first | assumption | (simp; done) | omega | (dsimp only; omega))).other (p := ⟨w.heap.size + 1, 2, none⟩) (.int .i64 0) (by first | assumption | (simp; done) | omega | (dsimp only; omega))).other (p := ⟨w.heap.size + 1, 3, none⟩) (.slice none 0 0) (by first | assumption | (simp; done) | omega | (dsimp only; omega)))
    have B2_ : Box ((((w2.setCell ⟨w.heap.size + 1, 0, none⟩ (.slice none 0 0)).setCell ⟨w.heap.size + 1, 1, none⟩ (.int .i64 0)).setCell ⟨w.heap.size + 1, 2, none⟩ (.int .i64 0)).setCell ⟨w.heap.size + 1, 3, none⟩ (.slice none 0 0)) (w.heap.size + 1) #[(.slice none 0 0), (.int .i64 0), (.int .i64 0), (.slice none 0 0)] := by simpa using ((((B2.out.set 0 (.slice none 0 0)).set 1 (.int .i64 0)).set 2 (.int .i64 0)).set 3 (.slice none 0 0))
    have HW_ : Below w.heap.size w ((((w2.setCell ⟨w.heap.size + 1, 0, none⟩ (.slice none 0 0)).setCell ⟨w.heap.size + 1, 1, none⟩ (.int .i64 0)).setCell ⟨w.heap.size + 1, 2, none⟩ (.int .i64 0)).setCell ⟨w.heap.size + 1, 3, none⟩ (.slice none 0 0)) := ((((HW.out.setCell (p := ⟨w.heap.size + 1, 0, none⟩) (by first | assumption | omega | (dsimp only; omega) | (have := HW.out.size; omega) | (simp; done) | (simp; omega)) (.slice none 0 0)).setCell (p := ⟨w.heap.size + 1, 1, none⟩) (by first | assumption | omega | (dsimp only; omega) | (have := HW.out.size; omega) | (simp; done) | (simp; omega)) (.int .i64 0)).setCell (p := ⟨w.heap.size + 1, 2, none⟩) (by first | assumption | omega | (dsimp only; omega) | (have := HW.out.size; omega) | (simp; done) | (simp; omega)) (.int .i64 0)).setCell (p := ⟨w.heap.size + 1, 3, none⟩) (by first | assumption | omega | (dsimp only; omega) | (have := HW.out.size; omega) | (simp; done) | (simp; omega)) (.slice none 0 0))
    clear lB1 cB1 fB1 lB2 cB2 fB2
    clear B1 B2 HW
    generalize ((((w2.setCell ⟨w.heap.size + 1, 0, none⟩ (.slice none 0 0)).setCell ⟨w.heap.size + 1, 1, none⟩ (.int .i64 0)).setCell ⟨w.heap.size + 1, 2, none⟩ (.int .i64 0)).setCell ⟨w.heap.size + 1, 3, none⟩ (.slice none 0 0)) = wz at *
    have B1 := Lib.hid B1_
    clear B1_
    have B2 := Lib.hid B2_
    clear B2_
    have HW := Lib.hid HW_
    clear HW_
    obtain ⟨lB1, cB1, fB1⟩ := B1.out
    obtain ⟨lB2, cB2, fB2⟩ := B2.out
    refine bodyPost_ret (v := .tuple #[.agg #[.slice none 0 0, .int .i64 0, .int .i64 0, .slice none 0 0], .int .i64 2]) (by simp [results, Try.results42, go_sem, *]) rfl ⟨_, Foot.none, by rw [HWHY.out], by rw [HWHY.out]; exact OFunc.zero, fun _ h => h.elim, HW.out⟩
  cases hq6 : (sz == 4096)
  rotate_left
  · have HWHY : Hid (splitF f bn kn = (zeroF, 2)) := Lib.hid (splitF_full HC0.out HX.out hkn (.inr (by rw [← HZ.out]; simpa using hq6)))
    go_wp2
    have B1_ : Box ((((w2.setCell ⟨w.heap.size + 1, 0, none⟩ (.slice none 0 0)).setCell ⟨w.heap.size + 1, 1, none⟩ (.int .i64 0)).setCell ⟨w.heap.size + 1, 2, none⟩ (.int .i64 0)).setCell ⟨w.heap.size + 1, 3, none⟩ (.slice none 0 0)) (w.heap.size) #[.slice ap np cp, .int .i64 ar, .int .i64 ce, .slice (some ⟨bb, bo, none⟩) nb cb] := by simpa using ((((B1.out.other (p := ⟨w.heap.size + 1, 0, none⟩) (.slice none 0 0) (by first | assumption | (simp; done) | omega | (dsimp only; omega))).other (p := ⟨w.heap.size + 1, 1, none⟩) (.int .i64 0) (by first | assumption | (simp; done) | omega | (dsimp only; omega))).other (p := ⟨w.heap.size + 1, 2, none⟩) (.int .i64 0) (by first | assumption | (simp; done) | omega | (dsimp only; omega))).other (p := ⟨w.heap.size + 1, 3, none⟩) (.slice none 0 0) (by first | assumption | (simp; done) | omega | (dsimp only; omega)))
    have B2_ : Box ((((w2.setCell ⟨w.heap.size + 1, 0, none⟩ (.slice none 0 0)).setCell ⟨w.heap.size + 1, 1, none⟩ (.int .i64 0)).setCell ⟨w.heap.size + 1, 2, none⟩ (.int .i64 0)).setCell ⟨w.heap.size + 1, 3, none⟩ (.slice none 0 0)) (w.heap.size + 1) #[(.slice none 0 0), (.int .i64 0), (.int .i64 0), (.slice none 0 0)] := by simpa using ((((B2.out.set 0 (.slice none 0 0)).set 1 (.int .i64 0)).set 2 (.int .i64 0)).set 3 (.slice none 0 0))
    have HW_ : Below w.heap.size w ((((w2.setCell ⟨w.heap.size + 1, 0, none⟩ (.slice none 0 0)).setCell ⟨w.heap.size + 1, 1, none⟩ (.int .i64 0)).setCell ⟨w.heap.size + 1, 2, none⟩ (.int .i64 0)).setCell ⟨w.heap.size + 1, 3, none⟩ (.slice none 0 0)) := ((((HW.out.setCell (p := ⟨w.heap.size + 1, 0, none⟩) (by first | assumption | omega | (dsimp only; omega) | (have := HW.out.size; omega) | (simp; done) | (simp; omega)) (.slice none 0 0)).setCell (p := ⟨w.heap.size + 1, 1, none⟩) (by first | assumption | omega | (dsimp only; omega) | (have := HW.out.size; omega) | (simp; done) | (simp; omega)) (.int .i64 0)).setCell (p := ⟨w.heap.size + 1, 2, none⟩) (by first | assumption | omega | (dsimp only; omega) | (have := HW.out.size; omega) | (simp; done) | (simp; omega)) (.int .i64 0)).setCell (p := ⟨w.heap.size + 1, 3, none⟩) (by first | assumption | omega | (dsimp only; omega) | (have := HW.out.size; omega) | (simp; done) | (simp; omega)) (.slice none 0 0))
    clear lB1 cB1 fB1 lB2 cB2 fB2
    clear B1 B2 HW
    generalize ((((w2.setCell ⟨w.heap.size + 1, 0, none⟩ (.slice none 0 0)).setCell ⟨w.heap.size + 1, 1, none⟩ (.int .i64 0)).setCell ⟨w.heap.size + 1, 2, none⟩ (.int .i64 0)).setCell ⟨w.heap.size + 1, 3, none⟩ (.slice none 0 0)) = wz at *
    have B1 := Lib.hid B1_
    clear B1_
    have B2 := Lib.hid B2_
    clear B2_
    have HW := Lib.hid HW_
    clear HW_
    obtain ⟨lB1, cB1, fB1⟩ := B1.out
    obtain ⟨lB2, cB2, fB2⟩ := B2.out
    refine bodyPost_ret (v := .tuple #[.agg #[.slice none 0 0, .int .i64 0, .int .i64 0, .slice none 0 0], .int .i64 2]) (by simp [results, Try.results42, go_sem, *]) rfl ⟨_, Foot.none, by rw [HWHY.out], by rw [HWHY.out]; exact OFunc.zero, fun _ h => h.elim, HW.out⟩
  have hnb5 : nb < 512 := by simp at hq5; omega
  have HOK : Hid (splitF f bn kn = (splitAt f bn kn tn ((x.term.to.set kn (f.blocks.length : Int)).contains (tn : Int)), 0)) := Lib.hid (splitF_ok HC0.out HX.out HQT.out (by rw [← HNB.out]; omega) (by rw [← HZ.out]; simpa using hq6))
  go_wp2_with fail
  clear hq1 hq2 hq3 hq4 hq5 hq6 hc1
  refine (irCopy (HV.out.below HW.out) HSZ.out.1 HSZ.out.2).mono ?_
  rintro e w3 ⟨vo, SO, rfl, hO, hFr, hb⟩
  obtain ⟨⟨pa, bv, SQ, SB, rfl, hQ, hOB, hQB, hsq, hsb⟩, hlt, -, -⟩ := hO
  obtain ⟨pa2, pc2, rfl⟩ := hQ.ints.form
  have hl2 : w.heap.size + 2 ≤ w2.heap.size := by omega
  have hl3 : w.heap.size + 2 ≤ w3.heap.size := Nat.le_trans hl2 hb.size
  have HQ : Hid (Holds [w.heap.size, w.heap.size + 1] (w.heap.size + 2) w3 SQ (fun W => OInts W SQ (.slice pa2 np pc2) f.params)) := Lib.hid (by
    have h9 := ((holds_ints hQ (fun k hk => hFr k (hsq k hk))).from hl2).low (bs' := [w.heap.size, w.heap.size + 1]) (by simp)
    rw [← HNP.out] at h9; exact h9)
  have HBK : Hid (Holds [w.heap.size, w.heap.size + 1] (w.heap.size + 2) w3 SB (fun W => OBlocks W SB bv f.blocks)) := Lib.hid (((holds_sl OBlock.nice hOB (fun k hk => hFr k (hsb k hk))).from hl2).low (by simp))
  have HQB := Lib.hid hQB
  obtain ⟨g, cap, hbv⟩ : ∃ g cap, bv = .slice (some ⟨g, 0, none⟩) nb cap := by
    obtain ⟨cs, G, F, hp⟩ := hOB
    obtain ⟨g, cap, hv, -⟩ := hp.row.addr (by have := HNB.out; omega)
    exact ⟨g, cap, by rw [HNB.out]; exact hv⟩
  subst hbv
  rw [← HAC.out.1, ← HAC.out.2, ← HNP.out]
  clear hQ hOB hQB hsq hsb hlt hFr
  clear lB1 cB1 fB1 lB2 cB2 fB2
  replace B1 := Lib.hid (B1.out.later hb)
  replace B2 := Lib.hid (B2.out.later hb)
  replace HW := Lib.hid (HW.out.trans (hb.mono HW.out.size))
  clear hb
  obtain ⟨lB1, cB1, fB1⟩ := B1.out
  obtain ⟨lB2, cB2, fB2⟩ := B2.out

  go_upto_region 10 with (fail)
  replace HQ := Lib.hid (HQ.out.more (Nat.le_refl _))
  replace HBK := Lib.hid (HBK.out.more (Nat.le_refl _))
  have nB3B1 : w3.heap.size ≠ w.heap.size := fun e => by have := lB1; omega
  have nB1B3 : w.heap.size ≠ w3.heap.size := fun e => nB3B1 e.symm
  have nB3B2 : w3.heap.size ≠ w.heap.size + 1 := fun e => by have := lB2; omega
  have nB2B3 : w.heap.size + 1 ≠ w3.heap.size := fun e => nB3B2 e.symm
  have B1_ : Box (w3.alloc (.cells #[.slice pa2 np pc2, .int .i64 ar, .int .i64 ce, .slice (some ⟨g, 0, none⟩) nb cap] 30)) (w.heap.size) #[.slice ap np cp, .int .i64 ar, .int .i64 ce, .slice (some ⟨bb, bo, none⟩) nb cb] := by simpa using (B1.out.alloc _)
  have B2_ : Box (w3.alloc (.cells #[.slice pa2 np pc2, .int .i64 ar, .int .i64 ce, .slice (some ⟨g, 0, none⟩) nb cap] 30)) (w.heap.size + 1) #[.slice none 0 0, .int .i64 0, .int .i64 0, .slice none 0 0] := by simpa using (B2.out.alloc _)
  have B3_ : Box (w3.alloc (.cells #[.slice pa2 np pc2, .int .i64 ar, .int .i64 ce, .slice (some ⟨g, 0, none⟩) nb cap] 30)) (w3.heap.size) #[.slice pa2 np pc2, .int .i64 ar, .int .i64 ce, .slice (some ⟨g, 0, none⟩) nb cap] := by simpa using (Box.new w3 #[.slice pa2 np pc2, .int .i64 ar, .int .i64 ce, .slice (some ⟨g, 0, none⟩) nb cap] 30)
  have HQ_ := (HQ.out.alloc (.cells #[.slice pa2 np pc2, .int .i64 ar, .int .i64 ce, .slice (some ⟨g, 0, none⟩) nb cap] 30))
  have HBK_ := (HBK.out.alloc (.cells #[.slice pa2 np pc2, .int .i64 ar, .int .i64 ce, .slice (some ⟨g, 0, none⟩) nb cap] 30))
  have HW_ : Below w.heap.size w (w3.alloc (.cells #[.slice pa2 np pc2, .int .i64 ar, .int .i64 ce, .slice (some ⟨g, 0, none⟩) nb cap] 30)) := (HW.out.alloc (by first | exact Nat.le_refl _ | exact HW.out.size | (simp only [World.size_alloc, World.size_setCell]; have := HW.out.size; omega)) _)
  clear lB1 cB1 fB1 lB2 cB2 fB2
  clear B1 B2 HQ HBK HW
  generalize (w3.alloc (.cells #[.slice pa2 np pc2, .int .i64 ar, .int .i64 ce, .slice (some ⟨g, 0, none⟩) nb cap] 30)) = w4 at *
  have B1 := Lib.hid B1_
  clear B1_
  have B2 := Lib.hid B2_
  clear B2_
  have B3 := Lib.hid B3_
  clear B3_
  have HQ := Lib.hid HQ_
  clear HQ_
  have HBK := Lib.hid HBK_
  clear HBK_
  have HW := Lib.hid HW_
  clear HW_
  obtain ⟨lB1, cB1, fB1⟩ := B1.out
  obtain ⟨lB2, cB2, fB2⟩ := B2.out
  obtain ⟨lB3, cB3, fB3⟩ := B3.out
  generalize w3.heap.size = b3 at *

  clear nB3B1 nB1B3 nB3B2 nB2B3
  obtain ⟨g', cap', apx, aix, atx, cpx, cix, ctx, S1, S2, S3, hv, hgl, hSg, hC, hfr, -, -, hto, -, -, i3, -, -, -, hng, -, -, hcl⟩ := HBK.out.now.open HX.out
  obtain ⟨rfl, rfl⟩ : g = g' ∧ cap = cap' := by injection hv with h1 h2 h3; injection h1 with h1; injection h1 with h1; exact ⟨h1, h3⟩
  obtain ⟨k0, k1, k2, k3, k4, k5, -, -, -, -, -, -⟩ := hC
  obtain ⟨gt, ctt, ht, hSt, hgtl, hkc, hkf, hset⟩ := hto.addr HQT.out
  cases ht
  clear hv hto
  go_upto_region 11 with (fail)
  go_quiet (fail)
  clear lB1 cB1 fB1 lB2 cB2 fB2 lB3 cB3 fB3
  clear k0 k1 k2 k3 k4 k5 hkc hkf hcl hset hfr hng hSt
  replace HW := Lib.hid (below_drewN HW.out nq)
  replace B1 := Lib.hid (B1.out.drewN nq)
  replace B2 := Lib.hid (B2.out.drewN nq)
  replace B3 := Lib.hid (B3.out.drewN nq)
  replace HQ := Lib.hid (HQ.out.later (below_drewN (Below.refl _ _) nq))
  replace HBK := Lib.hid (HBK.out.later (below_drewN (Below.refl _ _) nq))
  generalize w4.drewN nq = wq at *

  obtain ⟨lB1, cB1, fB1⟩ := B1.out
  obtain ⟨lB2, cB2, fB2⟩ := B2.out
  obtain ⟨lB3, cB3, fB3⟩ := B3.out
  obtain ⟨g', cap', apx, aix, atx, cpx, cix, ctx, S1, S2, S3, hv, hgl, hSg, hC, hfr, -, -, hto, -, -, i3, -, -, -, hng, -, -, hcl⟩ := HBK.out.now.open HX.out
  obtain ⟨rfl, rfl⟩ : g = g' ∧ cap = cap' := by injection hv with h1 h2 h3; injection h1 with h1; injection h1 with h1; exact ⟨h1, h3⟩
  obtain ⟨k0, k1, k2, k3, k4, k5, -, -, -, -, -, -⟩ := hC
  obtain ⟨gt, ctt, ht, hSt, hgtl, hkc, hkf, hset⟩ := hto.addr HQT.out
  cases ht
  clear hv hto
  have hni : In64 (nb : Int) := ⟨by omega, by omega⟩
  have hO5 := hset (nb : Int) hni
  have HSG := Lib.hid hSg
  have HST := Lib.hid (i3 _ hSt)
  have HOF : Hid (Off (Foot.one gt) wq (wq.setCell ⟨gt, kn, none⟩ (.int .i64 (nb : Int)))) := Lib.hid (Off.set wq ⟨gt, kn, none⟩ (.int .i64 (nb : Int)))
  have HBK5 := Lib.hid (hcl _ _ (HOF.out.mono fun k _ hk => by cases hk; exact hSt) hO5)
  have HO5 := Lib.hid hO5
  have hgg : g ≠ gt := fun e => by subst e; exact hng.2.2 hSt
  have k4' := (HOF.out.cell hgl (fun h => hgg h)).trans k4
  have k0' := (HOF.out.cell hgl (fun h => hgg h)).trans k0
  have HI3 : Hid (∀ k, S3 k → SB k) := Lib.hid i3
  clear hcl hO5 hset hSt hSg hng i3
  go_upto_region 13 with (fail)
  clear lB1 cB1 fB1 lB2 cB2 fB2 lB3 cB3 fB3
  clear k0 k1 k2 k3 k4 k5 hkc hkf hfr
  generalize wq.setCell ⟨gt, kn, none⟩ (.int .i64 (nb : Int)) = w5 at *
  have hbs : ∀ q ∈ [b3, w.heap.size, w.heap.size + 1], ¬ Foot.one gt q := fun q hq h => by cases h; exact HBK.out.free _ HST.out hq
  replace HW := Lib.hid (HW.out.trans (HOF.out.below HW.out.size (fun k _ hk => by cases hk; have := HBK.out.base _ HST.out; omega)))
  replace B1 := Lib.hid (B1.out.off HOF.out (hbs _ (by simp)))
  replace B2 := Lib.hid (B2.out.off HOF.out (hbs _ (by simp)))
  replace B3 := Lib.hid (B3.out.off HOF.out (hbs _ (by simp)))
  replace HQ := Lib.hid (HQ.out.off HOF.out (fun k h1 h2 => HQB.out k h1 (by cases h2; exact HST.out)))
  have HBK6 : Hid (Holds [b3, w.heap.size, w.heap.size + 1] (w.heap.size + 2) w5 SB (fun W => OBlocks W SB (.slice (some ⟨g, 0, none⟩) nb cap) (f.blocks.set bn (splitTo kn (nb : Int) x)))) :=
    Lib.hid ⟨HBK5.out, fun _ _ h hk => h.keep OBlock.nice hk, HBK5.out.lt, HBK.out.base, HBK.out.free⟩
  clear HBK HBK5 HOF hbs hgg hgl

  obtain ⟨lB1, cB1, fB1⟩ := B1.out
  obtain ⟨lB2, cB2, fB2⟩ := B2.out
  obtain ⟨lB3, cB3, fB3⟩ := B3.out
  have HLT : Hid ((x.term.to.set kn (nb : Int)).length = x.term.to.length) := Lib.hid (List.length_set)
  go_wp2_with fail
  refine (containsInts HO5.out.ints).mono ?_
  rintro e w6 ⟨rfl, rfl⟩
  clear k4' k0' HO5 hni
  obtain ⟨st, hst⟩ : ∃ st, st = (x.term.to.set kn (nb : Int)).contains (tn : Int) := ⟨_, rfl⟩
  rw [← hst]
  rw [← HNB.out, ← hst] at HOK
  have HLB : Hid ((f.blocks.set bn (splitTo kn (nb : Int) x)).length = nb) := Lib.hid (by rw [List.length_set, HNB.out])
  obtain ⟨y, hy⟩ : ∃ y, (f.blocks.set bn (splitTo kn (nb : Int) x))[tn]? = some y := ⟨_, List.getElem?_eq_getElem (by have := HLB.out; omega)⟩
  have HY := Lib.hid hy
  have HYB : Hid (∃ y0 ∈ f.blocks, y0.phis = y.phis) := Lib.hid (by
    rw [List.getElem?_set] at hy
    split at hy
    · rename_i e
      subst e
      rw [if_pos (by have := HNB.out; omega)] at hy
      cases hy
      exact ⟨x, List.mem_of_getElem? HX.out, rfl⟩
    · exact ⟨y, List.mem_of_getElem? hy, rfl⟩)
  have HYP : Hid (∀ p ∈ y.phis, p.src.length = p.vals.length ∧ p.vals.length ≤ 512) := Lib.hid (by
    obtain ⟨y0, h1, h2⟩ := HYB.out
    rw [← h2]
    exact (even_of HF.out).phi y0 h1)
  clear hst
  obtain ⟨g', cap', apy, aiy, aty, cpy, ciy, cty, T1, T2, T3, hv, hgl, hSg, hC, hfr, hph, -, -, i1, -, -, -, -, -, hng, hcl, -, -⟩ := HBK6.out.now.open hy
  obtain ⟨rfl, rfl⟩ : g = g' ∧ cap = cap' := by injection hv with h1 h2 h3; injection h1 with h1; injection h1 with h1; exact ⟨h1, h3⟩
  obtain ⟨k0, -, -, -, -, -, -, -, -, -, -, -⟩ := hC
  have HPH := Lib.hid hph
  have HCL := Lib.hid hcl
  have HT1 := Lib.hid i1
  have HNG : Hid (¬ T1 g) := Lib.hid hng.1
  have HK0 := Lib.hid k0
  obtain ⟨ny, hny⟩ : ∃ ny, ny = y.phis.length := ⟨_, rfl⟩
  rw [← hny] at k0 HK0 HPH HCL
  have HNY := Lib.hid hny
  have hny5 : ny ≤ 100000 := by
    obtain ⟨y0, h1, h2⟩ := HYB.out
    have := (HSZ.out.1 y0 h1).1
    rw [h2] at this; omega
  have hl5 : b3 < w5.heap.size := B3.out.lt
  clear hv hfr hph i1 hng hcl hy hny hSg
  go_wp2_with fail
  clear k0
  go_loopw [102] (fun i wr => ∃ (j : Nat) (Sp : Foot), j ≤ ny ∧ i = .int .i64 j ∧ Off T1 w5 wr ∧ OPhis wr Sp (.slice apy ny cpy) (upTo (splitPhi bn nb st) y.phis j) ∧ ∀ k, Sp k → T1 k ∨ w5.heap.size ≤ k) (fun i _ => ny - (intOf i).toNat)
  case atStart => exact ⟨0, T1, Nat.zero_le _, rfl, Off.refl _ _, by rw [upTo_zero]; exact HPH.out, fun k h => .inl h⟩
  case round =>
    obtain ⟨j, Sp, hj, rfl, hof, hop, hsp⟩ := hrel
    clear lB1 cB1 fB1 lB2 cB2 fB2 lB3 cB3 fB3
    have HOF := Lib.hid hof
    have HOP := Lib.hid hop
    have HSP := Lib.hid hsp
    clear hof hop hsp
    have hfb : ∀ q ∈ [b3, w.heap.size, w.heap.size + 1], ¬ T1 q := fun q hq h => HBK6.out.free _ (HT1.out _ h) hq
    replace HW := Lib.hid (HW.out.trans (HOF.out.below HW.out.size (fun k _ hk => by have := HBK6.out.base _ (HT1.out k hk); omega)))
    replace B1 := Lib.hid (B1.out.off HOF.out (hfb _ (by simp)))
    replace B2 := Lib.hid (B2.out.off HOF.out (hfb _ (by simp)))
    replace B3 := Lib.hid (B3.out.off HOF.out (hfb _ (by simp)))
    clear hfb
    have k0 := (HOF.out.cell hgl HNG.out).trans HK0.out

    obtain ⟨lB1, cB1, fB1⟩ := B1.out
    obtain ⟨lB2, cB2, fB2⟩ := B2.out
    obtain ⟨lB3, cB3, fB3⟩ := B3.out
    by_cases hlt : j < ny
    · obtain ⟨p, hpj⟩ : ∃ p, y.phis[j]? = some p := ⟨_, List.getElem?_eq_getElem (by have := HNY.out; omega)⟩
      obtain ⟨hup, hnx⟩ := upTo_at (g := splitPhi bn nb st) hpj
      obtain ⟨gp, capp, af, av, cf, cv, cs, G, Sf, Sv, hv, hgpl, hGg, hGS, hC, hfr, hc2, hc3, hrow, hsf, hsv, iSf, iSv, hfv, hfG, hvG, hclo⟩ := HOP.out.open hup
      simp only [upTo_len, ← HNY.out] at hv hrow hclo
      cases hv
      obtain ⟨p0, p1, p2, p3, hsrc, hvals, -, -⟩ := hC
      have HUP := Lib.hid hup
      have HNX := Lib.hid hnx
      have HPJ := Lib.hid (HYP.out p (List.mem_of_getElem? hpj))
      have HC23 := Lib.hid (And.intro hc2 hc3)
      have HROW := Lib.hid hrow
      have HSF := Lib.hid hsf
      have HSV := Lib.hid hsv
      have HIS := Lib.hid (And.intro hGS (And.intro iSf iSv))
      have HGG := Lib.hid hGg
      have HFV := Lib.hid (And.intro hfv (And.intro hfG hvG))
      have HCLO := Lib.hid hclo
      have HSRC := Lib.hid hsrc
      clear hup hnx hpj hc2 hc3 hrow hsf hsv hGS iSf iSv hGg hfv hfG hvG hclo hsrc hvals
      have hni : In64 (nb : Int) := ⟨by omega, by omega⟩
      go_wp2_with fail
      refine (indexInts HSRC.out).mono ?_
      rintro e w9 ⟨rfl, rfl⟩
      by_cases hm : (bn : Int) ∈ p.src
      · rw [idxI_mem hm]
        obtain ⟨ix, hix⟩ : ∃ ix, ix = p.src.idxOf (bn : Int) := ⟨_, rfl⟩
        rw [← hix]
        have hixl : ix < p.src.length := by rw [hix]; exact List.idxOf_lt_length_of_mem hm
        have HAT : Hid (p.src[ix]? = some (bn : Int)) := Lib.hid (by rw [List.getElem?_eq_getElem hixl]; subst hix; rw [List.getElem_idxOf])
        have HM := Lib.hid hm
        have HIX := Lib.hid hix
        clear hm hix
        cases st
        · obtain ⟨gs, cgs, hvs, hSgs, hgsl, hcs, hfrs, hsets⟩ := HSF.out.addr HAT.out
          cases hvs
          have HSGS := Lib.hid hSgs
          have HPUT : Hid (OInts (wr.setCell ⟨gs, ix, none⟩ (.int .i64 (nb : Int))) Sf (.slice (some ⟨gs, 0, none⟩) p.src.length cf) (p.src.set ix (nb : Int))) := Lib.hid (hsets _ hni)
          have HOX : Hid (Off (Foot.one gs) wr (wr.setCell ⟨gs, ix, none⟩ (.int .i64 (nb : Int)))) := Lib.hid (Off.set wr ⟨gs, ix, none⟩ (.int .i64 (nb : Int)))
          have HNEW : Hid (OPhis (wr.setCell ⟨gs, ix, none⟩ (.int .i64 (nb : Int))) (fun k => Sp k ∨ Sf k ∨ Sv k) (.slice (some ⟨gp, 0, none⟩) ny cpy) (upTo (splitPhi bn nb false) y.phis (j + 1))) := Lib.hid (by
            have h9 := HCLO.out (wr.setCell ⟨gs, ix, none⟩ (.int .i64 (nb : Int))) _ _ (p.src.set ix (nb : Int)) p.vals Sf Sv (HOX.out.mono fun k _ hk => by cases hk; exact .inr (.inl hSgs)) (by
              rw [set_same HC23.out.1, set_same HC23.out.2]
              exact HROW.out.off HOX.out fun k h1 h2 => by cases h2; exact HFV.out.2.1 _ hSgs h1) HPUT.out (HSV.out.off HOX.out fun k h1 h2 => by cases h2; exact HFV.out.1 _ hSgs h1) HFV.out.1 (fun k h => .inl h) (fun k h => .inl h)
            rw [← HNX.out, splitPhi_not HM.out, ← HIX.out]
            exact h9)
          clear hSgs hsets
          go_wp2
          go_roundw
          case rel => exact ⟨j + 1, _, hlt, by go_num, HOF.out.grow HOX.out (fun k hk => by cases hk; exact HSP.out _ (HIS.out.2.1 _ HSGS.out)), HNEW.out, fun k hk => HSP.out _ (hk.elim id fun h => h.elim (HIS.out.2.1 k) (HIS.out.2.2 k))⟩
          case measure => simp [intOf]; omega
        · have hlv : ix < p.vals.length := by have := HPJ.out.1; omega
          obtain ⟨pv, hpv⟩ : ∃ pv, p.vals[ix]? = some pv := ⟨_, List.getElem?_eq_getElem hlv⟩
          obtain ⟨gv, cgv, hvv, hSgv, hgvl, hcv, hfrv, -⟩ := HSV.out.addr hpv
          cases hvv
          have HPV : Hid (p.vals.getD (p.src.idxOf (bn : Int)) 0 = pv) := Lib.hid (by rw [← HIX.out]; exact getD_some hpv)
          have hp64 : In64 pv := HSV.out.2 pv (List.mem_of_getElem? hpv)
          have HSGV := Lib.hid hSgv
          obtain ⟨XF, hX8, hX21, hX24, hXQ⟩ : ∃ XF : Nat → Foot, (∀ k, XF 8 k ↔ Sf k) ∧ (∀ k, XF 21 k ↔ Sv k) ∧ (∀ k, XF 24 k ↔ k = gp) ∧ ∀ q k, XF q k → q = 8 ∨ q = 21 ∨ q = 24 :=
            ⟨fun q => if q = 8 then Sf else if q = 21 then Sv else if q = 24 then Foot.one gp else Foot.none, fun k => by simp, fun k => by simp, fun k => by simp [Foot.one], fun q k h => by
              by_cases e : q = 8
              · exact .inl e
              · by_cases e2 : q = 21
                · exact .inr (.inl e2)
                · by_cases e3 : q = 24
                  · exact .inr (.inr e3)
                  · simp only [if_neg e, if_neg e2, if_neg e3] at h; exact h.elim⟩
          have HX := Lib.hid (And.intro hX8 (And.intro hX21 (And.intro hX24 hXQ)))
          have HLF : Hid (∀ k, Sf k → k < wr.heap.size) := Lib.hid HSF.out.lt
          have HLV : Hid (∀ k, Sv k → k < wr.heap.size) := Lib.hid HSV.out.lt
          have N8 : Hid (∀ k, (Sf k ∨ wr.heap.size ≤ k) → ∀ q, q ≠ 8 → ¬ XF q k) := Lib.hid (fun k hk q hq hx => by
            rcases hXQ q k hx with e | e | e
            · exact hq e
            · subst e
              have h1 := (hX21 k).1 hx
              rcases hk with hk | hk
              · exact HFV.out.1 k hk h1
              · have := HLV.out k h1; omega
            · subst e
              have h1 := (hX24 k).1 hx
              subst h1
              rcases hk with hk | hk
              · exact HFV.out.2.1 _ hk HGG.out
              · omega)
          have N21 : Hid (∀ k, (Sv k ∨ wr.heap.size ≤ k) → ∀ q, q ≠ 21 → ¬ XF q k) := Lib.hid (fun k hk q hq hx => by
            rcases hXQ q k hx with e | e | e
            · subst e
              have h1 := (hX8 k).1 hx
              rcases hk with hk | hk
              · exact HFV.out.1 k h1 hk
              · have := HLF.out k h1; omega
            · exact hq e
            · subst e
              have h1 := (hX24 k).1 hx
              subst h1
              rcases hk with hk | hk
              · exact HFV.out.2.2 _ hk HGG.out
              · omega)
          have N24 : Hid (∀ k, G k → ∀ q, q ≠ 24 → ¬ XF q k) := Lib.hid (fun k hk q hq hx => by
            rcases hXQ q k hx with e | e | e
            · subst e; exact HFV.out.2.1 k ((hX8 k).1 hx) hk
            · subst e; exact HFV.out.2.2 k ((hX21 k).1 hx) hk
            · exact hq e)
          have NGP : Hid (∀ q, XF q gp → ¬ q ≠ 24) := Lib.hid (fun q hx hq => N24.out gp HGG.out q hq hx)
          have NGV : Hid (∀ q, XF q gv → ¬ q ≠ 21) := Lib.hid (fun q hx hq => N21.out gv (.inl HSGV.out) q hq hx)
          have xW : ∀ q k, XF q k → k < wr.heap.size := fun q k h => by
            rcases hXQ q k h with e | e | e
            · subst e; exact HLF.out k ((hX8 k).1 h)
            · subst e; exact HLV.out k ((hX21 k).1 h)
            · subst e; have := (hX24 k).1 h; omega
          have xI : ∀ w w' : World, True → Below w.heap.size w w' → True := fun _ _ _ _ => trivial
          have xI0 : True := trivial
          have hSP : ∀ q k, XF q k → Sp k := fun q k h => by
            rcases hXQ q k h with e | e | e
            · subst e; exact HIS.out.2.1 k ((hX8 k).1 h)
            · subst e; exact HIS.out.2.2 k ((hX21 k).1 h)
            · subst e; have := (hX24 k).1 h; subst this; exact HIS.out.1 _ HGG.out
          have xBASE : ∀ k, k < wr.heap.size → Four.All XF k → w.heap.size ≤ k := fun k _ ⟨q, h⟩ => by
            rcases HSP.out k (hSP q k h) with h | h
            · have := HBK6.out.base _ (HT1.out k h); omega
            · have := HW.out.size; have := HOF.out.size; omega
          have HXSP := Lib.hid hSP
          clear hX8 hX21 hX24 hXQ hSP hpv hSgv
          clear lB1 cB1 fB1 lB2 cB2 fB2 lB3 cB3 fB3



          go_upto_region 22 with (fail)
          refine Four.wp_region_grow (XF := XF) (I := (fun _ => True)) 25 (fun ν kz => match kz with | 7 => .made wr.heap.size (fun b => .slice (some ⟨b, 0, none⟩) 1 1) #[.int .i64 (nb : Int)] | 8 => .holds (fun u w' => ∃ (g1 c1 : Nat), u = .slice (some ⟨g1, 0, none⟩) (p.src.length + 1) c1 ∧ OInts w' (Foot.one g1) u (p.src ++ [(nb : Int)]) ∧ (Sf g1 ∨ wr.heap.size ≤ g1)) | 20 => .made wr.heap.size (fun b => .slice (some ⟨b, 0, none⟩) 1 1) #[.int .i64 pv] | 21 => .holds (fun u w' => ∃ (g1 c1 : Nat), u = .slice (some ⟨g1, 0, none⟩) (p.vals.length + 1) c1 ∧ OInts w' (Foot.one g1) u (p.vals ++ [pv]) ∧ (Sv g1 ∨ wr.heap.size ≤ g1) ∧ ∀ g8 c8, ν 8 = .slice (some ⟨g8, 0, none⟩) (p.src.length + 1) c8 → g1 ≠ g8) | 24 => .holds (fun u w' => ORow w' G 118 4 (.slice (some ⟨gp, 0, none⟩) ny cpy) ny (cs.set (j * 4 + 2) (ν 8))) | _ => .plain) (by kernel_rfl) (by kernel_rfl) ?_ ?_ xW xI xI0 ?_ (fun ν => ?_)
          · (intro ν k; (try dsimp only); split <;> first | exact True.intro | (intro u w1 w2 hu hb; first | (obtain ⟨g1, c1, e1, h1, h2⟩ := hu; exact ⟨g1, c1, e1, h1.off hb (fun k hk ⟨q, hq, hx⟩ => by cases hk; exact N8.out g1 h2 q hq hx), h2⟩) | (obtain ⟨g1, c1, e1, h1, h2, h3⟩ := hu; exact ⟨g1, c1, e1, h1.off hb (fun k hk ⟨q, hq, hx⟩ => by cases hk; exact N21.out g1 h2 q hq hx), h2, h3⟩) | exact hu.off hb (fun k hk ⟨q, hq, hx⟩ => N24.out k hk q hq hx)))
          · (intro ν ν' k h; first | rfl | ((try dsimp only); split <;> first | rfl | (rw [h 8 (by kernel_rfl)])))
          · (intro ν j B mk A h; (try dsimp only at h); split at h <;> first | (cases h; exact Nat.le_refl _) | cases h)
          simp only [List.take_succ_cons, List.take_zero, List.drop_succ_cons, List.drop_zero]
          iterate 5 (refine Four.Grow.val (v := ?_) rfl rfl (fun wg hbg hdg => ?_) ?_; rotate_left; (focus (clear hbg hdg; first | (go_simp; done) | (go_simp; with_reducible rfl))); simp only [Act.put, List.setIfInBounds_toArray, List.set_cons_zero, List.set_cons_succ])
          refine Four.Grow.val (v := ?_) rfl rfl (fun wg hbg hdg => ?_) ?_
          rotate_left
          focus ((have z2 := (hbg.1.cell hgpl (fun ⟨q, h1, h2, h3⟩ => (fun hne => NGP.out q h3 hne) (fun e => by subst e; exact absurd (h2.symm.trans (by kernel_rfl : _ = true)) Bool.false_ne_true))).trans p2); clear hbg hdg; first | (go_simp; done) | (go_simp; with_reducible rfl))
          simp only [Act.put, List.setIfInBounds_toArray, List.set_cons_zero, List.set_cons_succ]
          refine Four.Grow.val (v := ?_) rfl rfl (fun wg hbg hdg => ?_) ?_
          rotate_left
          focus (clear hbg hdg; first | (go_simp; done) | (go_simp; with_reducible rfl))
          simp only [Act.put, List.setIfInBounds_toArray, List.set_cons_zero, List.set_cons_succ]
          refine Four.Grow.made (T := ?_) rfl rfl (fun wg hbg hdg => ?_) ?_
          rotate_left
          focus (clear hbg hdg; first | (go_simp; done) | (go_simp; with_reducible rfl))
          simp only [Act.put, Known.val, List.setIfInBounds_toArray, List.set_cons_zero, List.set_cons_succ]
          refine Four.Grow.gives rfl (fun wg hbg hdg => ?_) ?_
          focus ((obtain ⟨bx, e7, hbx, hB7⟩ := hdg 7 (by kernel_rfl)); simp only [e7]; exact gives_iapp2 (xs := p.src) (n := p.src.length) _ _ rfl rfl rfl rfl (HSF.out.off hbg.1 (fun k hk ⟨q, hq, _, hx⟩ => N8.out k (.inl hk) q hq hx)) hB7 hni (by have := HPJ.out; omega) (fun k hk => (HX.out.1 k).2 hk) (fun g1 c1 w'' h2 h3 => ⟨g1, c1, rfl, h2, h3.imp_right (Nat.le_trans hbg.1.size)⟩))
          simp only [Act.put, Known.val, List.setIfInBounds_toArray, List.set_cons_zero, List.set_cons_succ]
          iterate 3 (refine Four.Grow.val (v := ?_) rfl rfl (fun wg hbg hdg => ?_) ?_; rotate_left; (focus (clear hbg hdg; first | (go_simp; done) | (go_simp; with_reducible rfl))); simp only [Act.put, List.setIfInBounds_toArray, List.set_cons_zero, List.set_cons_succ])
          refine Four.Grow.val (v := ?_) rfl rfl (fun wg hbg hdg => ?_) ?_
          rotate_left
          focus ((have z3 := (hbg.1.cell hgpl (fun ⟨q, h1, h2, h3⟩ => (fun hne => NGP.out q h3 hne) (fun e => by subst e; exact absurd (h2.symm.trans (by kernel_rfl : _ = true)) Bool.false_ne_true))).trans p3); clear hbg hdg; first | (go_simp; done) | (go_simp; with_reducible rfl))
          simp only [Act.put, List.setIfInBounds_toArray, List.set_cons_zero, List.set_cons_succ]
          iterate 3 (refine Four.Grow.val (v := ?_) rfl rfl (fun wg hbg hdg => ?_) ?_; rotate_left; (focus (clear hbg hdg; first | (go_simp; done) | (go_simp; with_reducible rfl))); simp only [Act.put, List.setIfInBounds_toArray, List.set_cons_zero, List.set_cons_succ])
          refine Four.Grow.val (v := ?_) rfl rfl (fun wg hbg hdg => ?_) ?_
          rotate_left
          focus ((have z3 := (hbg.1.cell hgpl (fun ⟨q, h1, h2, h3⟩ => (fun hne => NGP.out q h3 hne) (fun e => by subst e; exact absurd (h2.symm.trans (by kernel_rfl : _ = true)) Bool.false_ne_true))).trans p3); clear hbg hdg; first | (go_simp; done) | (go_simp; with_reducible rfl))
          simp only [Act.put, List.setIfInBounds_toArray, List.set_cons_zero, List.set_cons_succ]
          iterate 2 (refine Four.Grow.val (v := ?_) rfl rfl (fun wg hbg hdg => ?_) ?_; rotate_left; (focus (clear hbg hdg; first | (go_simp; done) | (go_simp; with_reducible rfl))); simp only [Act.put, List.setIfInBounds_toArray, List.set_cons_zero, List.set_cons_succ])
          refine Four.Grow.val (v := ?_) rfl rfl (fun wg hbg hdg => ?_) ?_
          rotate_left
          focus ((have z4 := (hbg.1.cell hgvl (fun ⟨q, h1, h2, h3⟩ => (fun hne => NGV.out q h3 hne) (fun e => by subst e; exact absurd (h2.symm.trans (by kernel_rfl : _ = true)) Bool.false_ne_true))).trans hcv); clear hbg hdg; first | (go_simp; done) | (go_simp; with_reducible rfl))
          simp only [Act.put, List.setIfInBounds_toArray, List.set_cons_zero, List.set_cons_succ]
          refine Four.Grow.made (T := ?_) rfl rfl (fun wg hbg hdg => ?_) ?_
          rotate_left
          focus (clear hbg hdg; first | (go_simp; done) | (go_simp; with_reducible rfl))
          simp only [Act.put, Known.val, List.setIfInBounds_toArray, List.set_cons_zero, List.set_cons_succ]
          refine Four.Grow.gives rfl (fun wg hbg hdg => ?_) ?_
          focus ((obtain ⟨bx, e7, hbx, hB7⟩ := hdg 20 (by kernel_rfl)); (have h8 : ∃ (g1 c1 : Nat), ν 8 = .slice (some ⟨g1, 0, none⟩) (p.src.length + 1) c1 ∧ OInts wg (Foot.one g1) (ν 8) (p.src ++ [(nb : Int)]) ∧ (Sf g1 ∨ wr.heap.size ≤ g1) := hdg 8 (by kernel_rfl)); (obtain ⟨g8, c8, e8, o8, q8⟩ := h8); simp only [e7]; exact gives_iapp2 (xs := p.vals) (n := p.vals.length) _ _ rfl rfl rfl rfl (HSV.out.off hbg.1 (fun k hk ⟨q, hq, _, hx⟩ => N21.out k (.inl hk) q hq hx)) hB7 hp64 (by have := HPJ.out; omega) (fun k hk => (HX.out.2.1 k).2 hk) (fun g1 c1 w'' h2 h3 => ⟨g1, c1, rfl, h2, h3.imp_right (Nat.le_trans hbg.1.size), fun g' c' e' => by rw [e8] at e'; cases e'; intro e9; subst e9; have hlt8 := o8.lt _ rfl; rcases h3 with h3 | h3; (rcases q8 with q8 | q8; exact HFV.out.1 _ q8 h3; have := HLV.out _ h3; omega); omega⟩))
          simp only [Act.put, Known.val, List.setIfInBounds_toArray, List.set_cons_zero, List.set_cons_succ]
          iterate 2 (refine Four.Grow.val (v := ?_) rfl rfl (fun wg hbg hdg => ?_) ?_; rotate_left; (focus (clear hbg hdg; first | (go_simp; done) | (go_simp; with_reducible rfl))); simp only [Act.put, List.setIfInBounds_toArray, List.set_cons_zero, List.set_cons_succ])
          refine Four.Grow.turns rfl (fun wg hbg hdg => ?_) ?_
          focus ((have h8 : ∃ (g1 c1 : Nat), ν 8 = .slice (some ⟨g1, 0, none⟩) (p.src.length + 1) c1 ∧ OInts wg (Foot.one g1) (ν 8) (p.src ++ [(nb : Int)]) ∧ (Sf g1 ∨ wr.heap.size ≤ g1) := hdg 8 (by kernel_rfl)); (obtain ⟨g8, c8, e8, o8, q8⟩ := h8); clear hdg; simp only [e8]; (have hr := HROW.out.off hbg.1 (fun k hk ⟨q, hq, _, hx⟩ => N24.out k hk q hq hx)); (obtain ⟨g9, c9, e9, -, -, -, -, hc9, hf9⟩ := hr.addr (by omega)); cases e9; (have z2 := hc9 _ _ HC23.out.1); refine ⟨wg.setCell ⟨gp, j * 4 + 2, none⟩ (.slice (some ⟨g8, 0, none⟩) (p.src.length + 1) c8), ?_, hr.set rfl (by omega) _ _, ⟨(Off.set wg ⟨gp, j * 4 + 2, none⟩ _).mono (fun k _ hk => (HX.out.2.2.1 k).2 hk), fun h => h⟩⟩; clear hbg hr q8 o8; (first | (go_simp; done) | (go_simp; with_reducible rfl)))
          simp only [Act.put, Known.val, List.setIfInBounds_toArray, List.set_cons_zero, List.set_cons_succ]
          intro wg hb hf hap
          obtain ⟨bBX, hνBX, hBBX, hXBX⟩ := hf 7 (by omega)
          obtain ⟨bBY, hνBY, hBBY, hXBY⟩ := hf 20 (by omega)
          have nBXBY : bBX ≠ bBY := fun e => hap 7 20 (by omega) (by omega) (by omega) rfl rfl (by rw [hνBX, hνBY, e])
          have nBYBX : bBY ≠ bBX := fun e => hap 20 7 (by omega) (by omega) (by omega) rfl rfl (by rw [hνBY, hνBX, e])
          simp only [hνBX, hνBY]
          clear hνBX hνBY
          clear hap
          have gBX := Nat.le_trans HW.out.size hBBX
          clear hBBX
          have gBY := Nat.le_trans HW.out.size hBBY
          clear hBBY
          replace HW := Lib.hid (HW.out.trans (hb.1.below HW.out.size xBASE))
          have BX := Lib.hid hXBX
          clear hXBX
          have BY := Lib.hid hXBY
          clear hXBY
          obtain ⟨lBX, cBX, fBX⟩ := BX.out
          obtain ⟨lBY, cBY, fBY⟩ := BY.out
          simp only [Nat.zero_add, Nat.reduceAdd]
          have h8 : ∃ (g1 c1 : Nat), ν 8 = .slice (some ⟨g1, 0, none⟩) (p.src.length + 1) c1 ∧ OInts wg (Foot.one g1) (ν 8) (p.src ++ [(nb : Int)]) ∧ (Sf g1 ∨ wr.heap.size ≤ g1) := hf 8 (by omega)
          have h21 : ∃ (g1 c1 : Nat), ν 21 = .slice (some ⟨g1, 0, none⟩) (p.vals.length + 1) c1 ∧ OInts wg (Foot.one g1) (ν 21) (p.vals ++ [pv]) ∧ (Sv g1 ∨ wr.heap.size ≤ g1) ∧ ∀ g8 c8, ν 8 = .slice (some ⟨g8, 0, none⟩) (p.src.length + 1) c8 → g1 ≠ g8 := hf 21 (by omega)
          have h24 : ORow wg G 118 4 (.slice (some ⟨gp, 0, none⟩) ny cpy) ny (cs.set (j * 4 + 2) (ν 8)) := hf 24 (by omega)
          obtain ⟨g8, c8, e8, o8, q8⟩ := h8
          obtain ⟨g21, c21, e21, o21, q21, n21⟩ := h21
          have hne := n21 g8 c8 e8
          simp only [e21]
          rw [e8] at o8 h24
          rw [e21] at o21
          obtain ⟨g9, c9, e9, -, -, -, -, hc9, hf9⟩ := h24.addr (by omega)
          cases e9
          have z3 := hc9 (j * 4 + 3) (.slice (some ⟨gv, 0, none⟩) p.vals.length cv) (by rw [List.getElem?_set, if_neg (by omega)]; exact HC23.out.2)
          have HOFW : Hid (Off (Four.All XF) wr wg) := Lib.hid hb.1
          have HSET : Hid (Off (Foot.one gp) wg (wg.setCell ⟨gp, j * 4 + 3, none⟩ (.slice (some ⟨g21, 0, none⟩) (p.vals.length + 1) c21))) := Lib.hid (Off.set wg ⟨gp, j * 4 + 3, none⟩ _)
          have HNG8 : Hid (g8 ≠ gp) := Lib.hid (fun e => by
            subst e
            rcases q8 with q8 | q8
            · exact HFV.out.2.1 _ q8 HGG.out
            · omega)
          have HNG21 : Hid (g21 ≠ gp) := Lib.hid (fun e => by
            subst e
            rcases q21 with q21 | q21
            · exact HFV.out.2.2 _ q21 HGG.out
            · omega)
          have HGP : Hid (∀ q k, XF q k → G k ∨ Sf k ∨ Sv k) := Lib.hid (fun q k h => by
            rcases HX.out.2.2.2 q k h with e | e | e
            · subst e; exact .inr (.inl ((HX.out.1 k).1 h))
            · subst e; exact .inr (.inr ((HX.out.2.1 k).1 h))
            · subst e; have := (HX.out.2.2.1 k).1 h; subst this; exact .inl HGG.out)
          have HNEW : Hid (OPhis (wg.setCell ⟨gp, j * 4 + 3, none⟩ (.slice (some ⟨g21, 0, none⟩) (p.vals.length + 1) c21)) (fun k => Sp k ∨ Foot.one g8 k ∨ Foot.one g21 k) (.slice (some ⟨gp, 0, none⟩) ny cpy) (upTo (splitPhi bn nb true) y.phis (j + 1))) := Lib.hid (by
            have h9 := HCLO.out (wg.setCell ⟨gp, j * 4 + 3, none⟩ (.slice (some ⟨g21, 0, none⟩) (p.vals.length + 1) c21)) _ _ (p.src ++ [(nb : Int)]) (p.vals ++ [pv]) (Foot.one g8) (Foot.one g21)
              ((HOFW.out.mono fun k _ ⟨q, h⟩ => HGP.out q k h).trans (HSET.out.mono fun k _ hk => by cases hk; exact .inl HGG.out)) (h24.set rfl (by omega) (j * 4 + 3) _)
              (o8.off HSET.out fun k h1 h2 => by cases h1; exact HNG8.out h2) (o21.off HSET.out fun k h1 h2 => by cases h1; exact HNG21.out h2) (fun k h1 h2 => by cases h1; exact hne h2.symm)
              (fun k hk => by cases hk; exact q8) (fun k hk => by cases hk; exact q21)
            rw [← HNX.out, splitPhi_still HM.out, HPV.out]
            exact h9)
          have HSP2 : Hid (∀ k, (Sp k ∨ Foot.one g8 k ∨ Foot.one g21 k) → T1 k ∨ w5.heap.size ≤ k) := Lib.hid (fun k hk => by
            have h0 := HOF.out.size
            rcases hk with hk | hk | hk
            · exact HSP.out k hk
            · cases hk
              rcases q8 with q8 | q8
              · exact HSP.out _ (HIS.out.2.1 _ q8)
              · right; omega
            · cases hk
              rcases q21 with q21 | q21
              · exact HSP.out _ (HIS.out.2.2 _ q21)
              · right; omega)
          have HOF2 : Hid (Off T1 w5 (wg.setCell ⟨gp, j * 4 + 3, none⟩ (.slice (some ⟨g21, 0, none⟩) (p.vals.length + 1) c21))) := Lib.hid ((HOF.out.grow HOFW.out (fun k ⟨q, h⟩ => HSP.out k (HXSP.out q k h))).grow HSET.out (fun k hk => by cases hk; exact HSP.out _ (HIS.out.1 _ HGG.out)))
          clear hf hb e8 e21 o8 o21 h24 q8 q21 n21 hne hc9
          go_wp2
          go_roundw
          case rel => exact ⟨j + 1, _, hlt, by go_num, HOF2.out, HNEW.out, HSP2.out⟩
          case measure => simp [intOf]; omega
      · rw [idxI_no hm]
        have HNEW : Hid (OPhis wr Sp (.slice (some ⟨gp, 0, none⟩) ny cpy) (upTo (splitPhi bn nb st) y.phis (j + 1))) := Lib.hid (by
          rw [← HNX.out, splitPhi_out hm, set_same HUP.out]; exact HOP.out)
        clear hm
        go_wp2
        go_roundw
        case rel => exact ⟨j + 1, _, hlt, by go_num, HOF.out, HNEW.out, HSP.out⟩
        case measure => simp [intOf]; omega
    · have hjn : j = ny := by omega

      have HMAP : Hid (OPhis wr Sp (.slice apy ny cpy) (y.phis.map (splitPhi bn nb st))) := Lib.hid (by
        have h9 := HOP.out
        rw [hjn, HNY.out, upTo_all, ← HNY.out] at h9; exact h9)
      clear hjn
      obtain ⟨bl, hbl⟩ : ∃ bl, bl = (f.blocks.set bn (splitTo kn (nb : Int) x)).set tn (splitIn bn (nb : Int) st y) := ⟨_, rfl⟩
      have HBL : Hid (OBlocks wr (fun k => SB k ∨ Sp k) (.slice (some ⟨g, 0, none⟩) nb cap) bl) := Lib.hid (by rw [hbl]; exact HCL.out wr Sp _ HOF.out HMAP.out HSP.out)
      have HLEN : Hid (bl.length = nb) := Lib.hid (by rw [hbl, List.length_set, HLB.out])
      have HSPLIT : Hid ((splitAt f bn kn tn st).blocks = bl ++ [jumpB (tn : Int)]) := Lib.hid (by
        rw [hbl]
        have h9 := splitAt_set (f := f) (k := kn) HX.out (by rw [← HNB.out]; exact HY.out) st
        rw [← HNB.out] at h9; exact h9)
      clear hbl
      have HFREE : Hid (∀ k, (SB k ∨ Sp k) → k ∉ [b3, w.heap.size, w.heap.size + 1] ∧ w.heap.size + 2 ≤ k) := Lib.hid (fun k hk => by
        rcases hk with hk | hk
        · exact ⟨HBK6.out.free k hk, HBK6.out.base k hk⟩
        · rcases HSP.out k hk with hk | hk
          · exact ⟨HBK6.out.free k (HT1.out k hk), HBK6.out.base k (HT1.out k hk)⟩
          · exact ⟨by simp; omega, by omega⟩)
      have HBL6 : Hid (Holds [b3, w.heap.size, w.heap.size + 1] (w.heap.size + 2) wr (fun k => SB k ∨ Sp k) (fun W => OBlocks W (fun k => SB k ∨ Sp k) (.slice (some ⟨g, 0, none⟩) nb cap) bl)) :=
        Lib.hid ⟨HBL.out, fun _ _ h hk => h.keep OBlock.nice hk, HBL.out.lt, fun k hk => (HFREE.out k hk).2, fun k hk => (HFREE.out k hk).1⟩
      have HBL0 : Hid (Holds [] (w.heap.size + 2) wr (fun k => SB k ∨ Sp k) (fun W => OBlocks W (fun k => SB k ∨ Sp k) (.slice (some ⟨g, 0, none⟩) nb cap) bl)) := Lib.hid (HBL6.out.less (by simp))
      have HQL : Hid (∀ k, SQ k → k < w5.heap.size) := Lib.hid HQ.out.lt
      replace HQ := Lib.hid (HQ.out.off HOF.out (fun k h1 h2 => HQB.out k h1 (HT1.out k h2)))
      have hwr : w5.heap.size ≤ wr.heap.size := HOF.out.size
      have HQN : Hid (∀ k, SQ k → ¬ (SB k ∨ Sp k)) := Lib.hid (fun k h1 h2 => by
        rcases h2 with h2 | h2
        · exact HQB.out k h1 h2
        · rcases HSP.out k h2 with h2 | h2
          · exact HQB.out k h1 (HT1.out k h2)
          · have := HQL.out k h1; omega)
      have ht64 : In64 (tn : Int) := ⟨by omega, by omega⟩
      clear HBL HBK6 HOP HMAP k0
      go_upto_region 25 with (at_builtin; go_loud (refine wpList_osnoc OBlock.nice rfl _ _ 28 57 rfl elBlock rfl rfl HLEN.out ((HBL0.out.alloc _).alloc _) (box_new2 _ _ _ _) rfl (jump_block (t := (tn : Int)) ht64 _) (fun k h1 h2 => by cases h1; exact absurd (HBL0.out.lt _ h2) (Nat.lt_irrefl _)) (fun k hk => by cases hk; omega) (by intro b hb; cases hb) (by simp; omega) (by simp [Value.oneCell']) (by omega) (by omega) ?_); intro v2 w7 SN q1 q2 q3 q4; obtain ⟨g2, c2, rfl⟩ := q4; have hB3 := ((B3.out.alloc _).alloc _).off q3 (fun h => (HFREE.out _ h).1 (by simp)); obtain ⟨lx, cx, fx⟩ := hB3)
      clear lx cx fx
      have hwn : w.heap.size + 2 ≤ wr.heap.size := by omega
      have HQN7 : Hid (SQ.off SN) := Lib.hid (fun k h1 h2 => by
        rcases q2 k h2 with h3 | h3 | h3
        · exact HQN.out k h1 h3
        · cases h3; have := HQL.out _ h1; omega
        · have := HQL.out k h1; simp at h3; omega)
      have HBN : Hid (Holds [b3, w.heap.size, w.heap.size + 1] (w.heap.size + 2) w7 SN (fun W => OBlocks W SN (.slice (some ⟨g2, 0, none⟩) (nb + 1) c2) (bl ++ [jumpB (tn : Int)]))) := Lib.hid ⟨q1.now, q1.keep, q1.lt, q1.base, fun k hk => by
        rcases q2 k hk with h3 | h3 | h3
        · exact (HFREE.out k h3).1
        · cases h3; simp; omega
        · simp at h3 ⊢; omega⟩
      clear lB1 cB1 fB1 lB2 cB2 fB2 lB3 cB3 fB3
      replace HW := Lib.hid (((HW.out.alloc HW.out.size _).alloc (by simp; have := HW.out.size; omega) _).trans (q3.below (by simp; have := HW.out.size; omega) (fun k _ hk => by have := (HFREE.out k hk).2; omega)))
      replace B1 := Lib.hid (((B1.out.alloc _).alloc _).off q3 (fun h => (HFREE.out _ h).1 (by simp)))
      replace B2 := Lib.hid (((B2.out.alloc _).alloc _).off q3 (fun h => (HFREE.out _ h).1 (by simp)))
      replace B3 := Lib.hid (((B3.out.alloc _).alloc _).off q3 (fun h => (HFREE.out _ h).1 (by simp)))
      replace HQ := Lib.hid (((HQ.out.alloc _).alloc _).off q3 (fun k h1 h2 => HQN.out k h1 h2))
      clear q1 q2 q3 HBL6 HBL0 HQN HQL hwr hwn


      obtain ⟨lB1, cB1, fB1⟩ := B1.out
      obtain ⟨lB2, cB2, fB2⟩ := B2.out
      obtain ⟨lB3, cB3, fB3⟩ := B3.out
      have B1_ : Box (w7.setCell ⟨b3, 3, none⟩ (.slice (some ⟨g2, 0, none⟩) (nb + 1) c2)) (w.heap.size) #[.slice ap np cp, .int .i64 ar, .int .i64 ce, .slice (some ⟨bb, bo, none⟩) nb cb] := by simpa using (B1.out.other (p := ⟨b3, 3, none⟩) (.slice (some ⟨g2, 0, none⟩) (nb + 1) c2) (by first | assumption | (simp; done) | omega | (dsimp only; omega)))
      have B2_ : Box (w7.setCell ⟨b3, 3, none⟩ (.slice (some ⟨g2, 0, none⟩) (nb + 1) c2)) (w.heap.size + 1) #[.slice none 0 0, .int .i64 0, .int .i64 0, .slice none 0 0] := by simpa using (B2.out.other (p := ⟨b3, 3, none⟩) (.slice (some ⟨g2, 0, none⟩) (nb + 1) c2) (by first | assumption | (simp; done) | omega | (dsimp only; omega)))
      have B3_ : Box (w7.setCell ⟨b3, 3, none⟩ (.slice (some ⟨g2, 0, none⟩) (nb + 1) c2)) (b3) #[.slice pa2 np pc2, .int .i64 ar, .int .i64 ce, (.slice (some ⟨g2, 0, none⟩) (nb + 1) c2)] := by simpa using (B3.out.set 3 (.slice (some ⟨g2, 0, none⟩) (nb + 1) c2))
      have HQ_ := (HQ.out.other (p := ⟨b3, 3, none⟩) (.slice (some ⟨g2, 0, none⟩) (nb + 1) c2) (by simp))
      have HBN_ := (HBN.out.other (p := ⟨b3, 3, none⟩) (.slice (some ⟨g2, 0, none⟩) (nb + 1) c2) (by simp))
      have HW_ : Below w.heap.size w (w7.setCell ⟨b3, 3, none⟩ (.slice (some ⟨g2, 0, none⟩) (nb + 1) c2)) := (HW.out.setCell (p := ⟨b3, 3, none⟩) (by first | assumption | omega | (dsimp only; omega) | (have := HW.out.size; omega) | (simp; done) | (simp; omega)) (.slice (some ⟨g2, 0, none⟩) (nb + 1) c2))
      clear lB1 cB1 fB1 lB2 cB2 fB2 lB3 cB3 fB3
      clear B1 B2 B3 HQ HBN HW
      generalize (w7.setCell ⟨b3, 3, none⟩ (.slice (some ⟨g2, 0, none⟩) (nb + 1) c2)) = w8 at *
      have B1 := Lib.hid B1_
      clear B1_
      have B2 := Lib.hid B2_
      clear B2_
      have B3 := Lib.hid B3_
      clear B3_
      have HQ := Lib.hid HQ_
      clear HQ_
      have HBN := Lib.hid HBN_
      clear HBN_
      have HW := Lib.hid HW_
      clear HW_
      obtain ⟨lB1, cB1, fB1⟩ := B1.out
      obtain ⟨lB2, cB2, fB2⟩ := B2.out
      obtain ⟨lB3, cB3, fB3⟩ := B3.out
      go_wp2
      have B1_ : Box ((((w8.setCell ⟨w.heap.size + 1, 0, none⟩ (.slice pa2 np pc2)).setCell ⟨w.heap.size + 1, 1, none⟩ (.int .i64 ar)).setCell ⟨w.heap.size + 1, 2, none⟩ (.int .i64 ce)).setCell ⟨w.heap.size + 1, 3, none⟩ (.slice (some ⟨g2, 0, none⟩) (nb + 1) c2)) (w.heap.size) #[.slice ap np cp, .int .i64 ar, .int .i64 ce, .slice (some ⟨bb, bo, none⟩) nb cb] := by simpa using ((((B1.out.other (p := ⟨w.heap.size + 1, 0, none⟩) (.slice pa2 np pc2) (by first | assumption | (simp; done) | omega | (dsimp only; omega))).other (p := ⟨w.heap.size + 1, 1, none⟩) (.int .i64 ar) (by first | assumption | (simp; done) | omega | (dsimp only; omega))).other (p := ⟨w.heap.size + 1, 2, none⟩) (.int .i64 ce) (by first | assumption | (simp; done) | omega | (dsimp only; omega))).other (p := ⟨w.heap.size + 1, 3, none⟩) (.slice (some ⟨g2, 0, none⟩) (nb + 1) c2) (by first | assumption | (simp; done) | omega | (dsimp only; omega)))
      have B2_ : Box ((((w8.setCell ⟨w.heap.size + 1, 0, none⟩ (.slice pa2 np pc2)).setCell ⟨w.heap.size + 1, 1, none⟩ (.int .i64 ar)).setCell ⟨w.heap.size + 1, 2, none⟩ (.int .i64 ce)).setCell ⟨w.heap.size + 1, 3, none⟩ (.slice (some ⟨g2, 0, none⟩) (nb + 1) c2)) (w.heap.size + 1) #[(.slice pa2 np pc2), (.int .i64 ar), (.int .i64 ce), (.slice (some ⟨g2, 0, none⟩) (nb + 1) c2)] := by simpa using ((((B2.out.set 0 (.slice pa2 np pc2)).set 1 (.int .i64 ar)).set 2 (.int .i64 ce)).set 3 (.slice (some ⟨g2, 0, none⟩) (nb + 1) c2))
      have B3_ : Box ((((w8.setCell ⟨w.heap.size + 1, 0, none⟩ (.slice pa2 np pc2)).setCell ⟨w.heap.size + 1, 1, none⟩ (.int .i64 ar)).setCell ⟨w.heap.size + 1, 2, none⟩ (.int .i64 ce)).setCell ⟨w.heap.size + 1, 3, none⟩ (.slice (some ⟨g2, 0, none⟩) (nb + 1) c2)) (b3) #[.slice pa2 np pc2, .int .i64 ar, .int .i64 ce, (.slice (some ⟨g2, 0, none⟩) (nb + 1) c2)] := by simpa using ((((B3.out.other (p := ⟨w.heap.size + 1, 0, none⟩) (.slice pa2 np pc2) (by first | assumption | (simp; done) | omega | (dsimp only; omega))).other (p := ⟨w.heap.size + 1, 1, none⟩) (.int .i64 ar) (by first | assumption | (simp; done) | omega | (dsimp only; omega))).other (p := ⟨w.heap.size + 1, 2, none⟩) (.int .i64 ce) (by first | assumption | (simp; done) | omega | (dsimp only; omega))).other (p := ⟨w.heap.size + 1, 3, none⟩) (.slice (some ⟨g2, 0, none⟩) (nb + 1) c2) (by first | assumption | (simp; done) | omega | (dsimp only; omega)))
      have HQ_ := ((((HQ.out.other (p := ⟨w.heap.size + 1, 0, none⟩) (.slice pa2 np pc2) (by simp)).other (p := ⟨w.heap.size + 1, 1, none⟩) (.int .i64 ar) (by simp)).other (p := ⟨w.heap.size + 1, 2, none⟩) (.int .i64 ce) (by simp)).other (p := ⟨w.heap.size + 1, 3, none⟩) (.slice (some ⟨g2, 0, none⟩) (nb + 1) c2) (by simp))
      have HBN_ := ((((HBN.out.other (p := ⟨w.heap.size + 1, 0, none⟩) (.slice pa2 np pc2) (by simp)).other (p := ⟨w.heap.size + 1, 1, none⟩) (.int .i64 ar) (by simp)).other (p := ⟨w.heap.size + 1, 2, none⟩) (.int .i64 ce) (by simp)).other (p := ⟨w.heap.size + 1, 3, none⟩) (.slice (some ⟨g2, 0, none⟩) (nb + 1) c2) (by simp))
      have HW_ : Below w.heap.size w ((((w8.setCell ⟨w.heap.size + 1, 0, none⟩ (.slice pa2 np pc2)).setCell ⟨w.heap.size + 1, 1, none⟩ (.int .i64 ar)).setCell ⟨w.heap.size + 1, 2, none⟩ (.int .i64 ce)).setCell ⟨w.heap.size + 1, 3, none⟩ (.slice (some ⟨g2, 0, none⟩) (nb + 1) c2)) := ((((HW.out.setCell (p := ⟨w.heap.size + 1, 0, none⟩) (by first | assumption | omega | (dsimp only; omega) | (have := HW.out.size; omega) | (simp; done) | (simp; omega)) (.slice pa2 np pc2)).setCell (p := ⟨w.heap.size + 1, 1, none⟩) (by first | assumption | omega | (dsimp only; omega) | (have := HW.out.size; omega) | (simp; done) | (simp; omega)) (.int .i64 ar)).setCell (p := ⟨w.heap.size + 1, 2, none⟩) (by first | assumption | omega | (dsimp only; omega) | (have := HW.out.size; omega) | (simp; done) | (simp; omega)) (.int .i64 ce)).setCell (p := ⟨w.heap.size + 1, 3, none⟩) (by first | assumption | omega | (dsimp only; omega) | (have := HW.out.size; omega) | (simp; done) | (simp; omega)) (.slice (some ⟨g2, 0, none⟩) (nb + 1) c2))
      clear lB1 cB1 fB1 lB2 cB2 fB2 lB3 cB3 fB3
      clear B1 B2 B3 HQ HBN HW
      generalize ((((w8.setCell ⟨w.heap.size + 1, 0, none⟩ (.slice pa2 np pc2)).setCell ⟨w.heap.size + 1, 1, none⟩ (.int .i64 ar)).setCell ⟨w.heap.size + 1, 2, none⟩ (.int .i64 ce)).setCell ⟨w.heap.size + 1, 3, none⟩ (.slice (some ⟨g2, 0, none⟩) (nb + 1) c2)) = w9 at *
      have B1 := Lib.hid B1_
      clear B1_
      have B2 := Lib.hid B2_
      clear B2_
      have B3 := Lib.hid B3_
      clear B3_
      have HQ := Lib.hid HQ_
      clear HQ_
      have HBN := Lib.hid HBN_
      clear HBN_
      have HW := Lib.hid HW_
      clear HW_
      obtain ⟨lB1, cB1, fB1⟩ := B1.out
      obtain ⟨lB2, cB2, fB2⟩ := B2.out
      obtain ⟨lB3, cB3, fB3⟩ := B3.out
      refine bodyPost_ret (v := .tuple #[.agg #[.slice pa2 np pc2, .int .i64 ar, .int .i64 ce, .slice (some ⟨g2, 0, none⟩) (nb + 1) c2], .int .i64 0]) (by simp [results, Try.results42, go_sem, *]) rfl ⟨_, fun q => SQ q ∨ SN q, by rw [HOK.out], by rw [HOK.out]; exact ⟨⟨_, _, SQ, SN, by rw [HAC.out.1, HAC.out.2]; rfl, HQ.out.now, by rw [HSPLIT.out]; exact HBN.out.now, HQN7.out, fun k h => .inl h, fun k h => .inr h⟩, fun k hk => hk.elim (HQ.out.lt k) (HBN.out.lt k), HA64.out.1, HA64.out.2⟩, fun k hk => ?_, HW.out⟩
      rcases hk with hk | hk
      · have := HQ.out.base k hk; omega
      · have := HBN.out.base k hk; omega
end Go.Proofs.Ytefpmjnimnmniaa
