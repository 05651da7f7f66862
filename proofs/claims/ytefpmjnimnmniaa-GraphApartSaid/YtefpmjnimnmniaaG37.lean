/- What the claim needs, part 37. -/
import Derived.Test.YtefpmjnimnmniaaG33
import Derived.Test.YtefpmjnimnmniaaG36
namespace Go.Proofs.Ytefpmjnimnmniaa
set_option linter.unusedSimpArgs false
set_option linter.unusedVariables false
open Go.RowKit
theorem Off.frozen {S : Foot} {W W' : World} (h : Off S W W') {b o : Nat} (hl : b < W.heap.size) (hn : ¬ S b) : W'.frozen? ⟨b, o, none⟩ = W.frozen? ⟨b, o, none⟩ := World.frozen?_of_block (w := W) (a := ⟨b, o, none⟩) (h.block b hl hn)
theorem wpList_iapp {w : World} {ops : Array Oper} {rest : List Oper} {o : Oper} {a : Act} {Q : Exit → Act → World → Prop} (hgd : o.guard = none) (s x : Operand)
    (ho : o.op = .call { callee := .builtin .append, args := #[s, x], argTypes := #[22, 22] }) {v : Value} {B : Nat} {y : Int} (hs : a.eval s = v) (hx : a.eval x = .slice (some ⟨B, 0, none⟩) 1 1) {S : Foot} {xs : List Int} {n : Nat} (hn : xs.length = n)
    (H : OInts w S v xs) (hB : Box w B #[.int .i64 y]) (hy : In64 y) (hlen : n + 1 ≤ 100000)
    (hK : ∀ g cap w', OInts w' (Foot.one g) (.slice (some ⟨g, 0, none⟩) (n + 1) cap) (xs ++ [y]) → (S g ∨ w.heap.size ≤ g) → Off S w w' → wpList Try.prog ops Q rest (a.put o.dst (.slice (some ⟨g, 0, none⟩) (n + 1) cap)) w') : wpList Try.prog ops Q (o :: rest) a w := by
  refine wpList_oapp (P := Try.prog) hgd s x 22 3 ho elInt hs hx H.1 (row_box (n := 1) (size := 1) (ds := [.int .i64 y]) hB rfl (by omega)) (by intro u hu; simp at hu; subst hu; rfl) (by omega) (by omega) fun v' w' G' r1 r2 r3 => ?_
  have hO : OInts w' G' v' (xs ++ [y]) := by
    refine ⟨?_, fun z hz => ?_⟩
    · rw [List.length_append, List.map_append]; exact r1
    · rcases List.mem_append.1 hz with h | h
      · exact H.2 z h
      · simp at h; subst h; exact hy
  obtain ⟨g, cap, rfl, hg, -⟩ := hO.1.addr (by simp)
  have hl : (xs ++ [y]).length = n + 1 := by simp [hn]
  rw [hl] at hO ⊢
  obtain ⟨k1, k2⟩ := hO.narrow (by omega)
  exact hK g cap w' k1 (r2 g k2) r3
def psiP (b n : Int) (st : Bool) (p : PhiD) (i : Nat) : PhiD := if b ∈ p.src.take i then splitPhi b n st p else p
theorem psi_zero {b n : Int} {st : Bool} {p : PhiD} : psiP b n st p 0 = p := by simp [psiP]
theorem psi_all {b n : Int} {st : Bool} {p : PhiD} : psiP b n st p p.src.length = splitPhi b n st p := by
  unfold psiP
  rw [List.take_length]
  split
  · rfl
  · rename_i h; exact (splitPhi_out h).symm
theorem psi_skip {b n : Int} {st : Bool} {p : PhiD} {i : Nat} {q : Int} (h : p.src[i]? = some q) (hne : q ≠ b) : psiP b n st p (i + 1) = psiP b n st p i := by
  unfold psiP
  rw [List.take_add_one, h]
  simp [hne.symm]
theorem psi_hit {b n : Int} {st : Bool} {p : PhiD} {i : Nat} (hnd : p.src.Nodup) (h : p.src[i]? = some b) : psiP b n st p i = p ∧ psiP b n st p (i + 1) = splitPhi b n st p ∧ p.src.idxOf b = i := by
  have hl := (List.getElem?_eq_some_iff.1 h).1
  have hb := (List.getElem?_eq_some_iff.1 h).2
  have hno : b ∉ p.src.take i := fun hm => by
    obtain ⟨j, hj, he⟩ := List.getElem_of_mem hm
    rw [List.length_take] at hj
    rw [List.getElem_take] at he
    rw [List.nodup_iff_pairwise_ne, List.pairwise_iff_getElem] at hnd
    exact hnd j i (by omega) hl (by omega) (he.trans hb.symm)
  refine ⟨if_neg hno, if_pos ?_, ?_⟩
  · rw [List.take_add_one, h]; simp
  · rw [← hb]; exact List.Nodup.idxOf_getElem hnd i hl
theorem psi_at {b n : Int} {st : Bool} {p : PhiD} {i : Nat} {q : Int} (h : p.src[i]? = some q) (hnb : q ≠ b) : (psiP b n st p i).src[i]? = some q := by
  unfold psiP
  have hl := (List.getElem?_eq_some_iff.1 h).1
  split
  · rename_i hm
    have hb := List.mem_of_mem_take hm
    cases st
    · rw [splitPhi_not hb]
      simp only
      rw [List.getElem?_set, if_neg]
      · exact h
      · intro e
        have h9 : p.src[p.src.idxOf b]'(List.idxOf_lt_length_of_mem hb) = b := List.getElem_idxOf _
        have h8 := (List.getElem?_eq_some_iff.1 h).2
        simp only [e] at h9
        exact hnb (h8.symm.trans h9)
    · rw [splitPhi_still hb]
      simp only
      rw [List.getElem?_append_left hl]; exact h
  · exact h
set_option maxHeartbeats 25600000 in
set_option maxRecDepth 100000 in
theorem refSplit {w : World} {v : Value} {f : FuncD} {b k : Int} (hv : FuncV w v f) (hb64 : In64 b) (hk64 : In64 k) : Calls Try.prog 43 #[v, .int .i64 b, .int .i64 k] w (SplitR f b k w) := by
  have HV := Lib.hid hv
  obtain ⟨ap, cp, ab, cb, rfl, hp, ha, hc, hB⟩ := hv.form
  obtain ⟨a2, c2, bb, bo, hbe, hbc, hbm, hbl, hba, hbx⟩ := blocks_parts hB
  cases hbe
  obtain ⟨np, hnp⟩ : ∃ np, np = f.params.length := ⟨_, rfl⟩
  obtain ⟨ar, har⟩ : ∃ ar, ar = f.arrays := ⟨_, rfl⟩
  obtain ⟨ce, hce⟩ : ∃ ce, ce = f.cells := ⟨_, rfl⟩
  obtain ⟨nb, hnb⟩ : ∃ nb, nb = f.blocks.length := ⟨_, rfl⟩
  rw [← hnb, ← hnp, ← har, ← hce] at HV
  rw [← hnb] at hbc hba hbl
  rw [← hnb, ← hnp, ← har, ← hce]
  have HNB := Lib.hid hnb
  have HNP := Lib.hid hnp
  have HAC : Hid (ar = f.arrays ∧ ce = f.cells) := Lib.hid ⟨har, hce⟩
  have HBA := Lib.hid hba
  have HBX := Lib.hid hbx
  have HA64 := Lib.hid (And.intro ha hc)
  clear hp ha hc hB hv hbx hnp hnb hba har hce
  go_enter Try.func43, Try.ntmps43
  go_upto_region 1 with (fail)
  have B1 : Hid (Box ((w.alloc (.cells #[.slice ap np cp, .int .i64 ar, .int .i64 ce, .slice ab nb cb] 30)).alloc (.cells #[.slice none 0 0, .int .i64 0, .int .i64 0, .slice none 0 0] 30)) (w.heap.size) #[.slice ap np cp, .int .i64 ar, .int .i64 ce, .slice ab nb cb]) := Lib.hid (by simpa using ((Box.new w #[.slice ap np cp, .int .i64 ar, .int .i64 ce, .slice ab nb cb] 30).alloc _))
  have B2 : Hid (Box ((w.alloc (.cells #[.slice ap np cp, .int .i64 ar, .int .i64 ce, .slice ab nb cb] 30)).alloc (.cells #[.slice none 0 0, .int .i64 0, .int .i64 0, .slice none 0 0] 30)) (w.heap.size + 1) #[.slice none 0 0, .int .i64 0, .int .i64 0, .slice none 0 0]) := Lib.hid (by simpa using (Box.new (w.alloc (.cells #[.slice ap np cp, .int .i64 ar, .int .i64 ce, .slice ab nb cb] 30)) #[.slice none 0 0, .int .i64 0, .int .i64 0, .slice none 0 0] 30))
  have HW : Hid (Below w.heap.size w ((w.alloc (.cells #[.slice ap np cp, .int .i64 ar, .int .i64 ce, .slice ab nb cb] 30)).alloc (.cells #[.slice none 0 0, .int .i64 0, .int .i64 0, .slice none 0 0] 30))) := Lib.hid (((Below.refl _ _).alloc (Nat.le_refl _) _).alloc (by simp) _)
  generalize ((w.alloc (.cells #[.slice ap np cp, .int .i64 ar, .int .i64 ce, .slice ab nb cb] 30)).alloc (.cells #[.slice none 0 0, .int .i64 0, .int .i64 0, .slice none 0 0] 30)) = wv at *
  obtain ⟨lB1, cB1, fB1⟩ := B1.out
  obtain ⟨lB2, cB2, fB2⟩ := B2.out
  go_wp2_with fail
  refine (refCheck (HV.out.below HW.out)).mono ?_
  rintro e w1 ⟨rfl, hb⟩
  clear lB1 cB1 fB1 lB2 cB2 fB2
  replace B1 := Lib.hid (B1.out.later hb)
  replace B2 := Lib.hid (B2.out.later hb)
  replace HW := Lib.hid (HW.out.trans (hb.mono HW.out.size))
  clear hb
  obtain ⟨lB1, cB1, fB1⟩ := B1.out
  obtain ⟨lB2, cB2, fB2⟩ := B2.out
  by_cases hc0 : checkF f = 0
  rotate_left
  · have HWHY : Hid (splitF f b k = (zeroF, checkF f)) := Lib.hid (splitF_bad hc0)
    have hc1 : (checkF f != 0) = true := by simpa using hc0
    clear hc0
    go_wp2
    have B1_ : Box ((((w1.setCell ⟨w.heap.size + 1, 0, none⟩ (.slice none 0 0)).setCell ⟨w.heap.size + 1, 1, none⟩ (.int .i64 0)).setCell ⟨w.heap.size + 1, 2, none⟩ (.int .i64 0)).setCell ⟨w.heap.size + 1, 3, none⟩ (.slice none 0 0)) (w.heap.size) #[.slice ap np cp, .int .i64 ar, .int .i64 ce, .slice ab nb cb] := by simpa using ((((B1.out.other (p := ⟨w.heap.size + 1, 0, none⟩) (.slice none 0 0) (by first | assumption | (simp; done) | omega | (dsimp only; omega))).other (p := ⟨w.heap.size + 1, 1, none⟩) (.int .i64 0) (by first | assumption | (simp; done) | omega | (dsimp only; omega))).other (p := ⟨w.heap.size + 1, 2, none⟩) (.int .i64 0) (by first | assumption | (simp; done) | omega | (dsimp only; omega))).other (p := ⟨w.heap.size + 1, 3, none⟩) (.slice none 0 0) (by first | assumption | (simp; done) | omega | (dsimp only; omega)))
    have B2_ : Box ((((w1.setCell ⟨w.heap.size + 1, 0, none⟩ (.slice none 0 0)).setCell ⟨w.heap.size + 1, 1, none⟩ (.int .i64 0)).setCell ⟨w.heap.size + 1, 2, none⟩ (.int .i64 0)).setCell ⟨w.heap.size + 1, 3, none⟩ (.slice none 0 0)) (w.heap.size + 1) #[(.slice none 0 0), (.int .i64 0), (.int .i64 0), (.slice none 0 0)] := by simpa using ((((B2.out.set 0 (.slice none 0 0)).set 1 (.int .i64 0)).set 2 (.int .i64 0)).set 3 (.slice none 0 0))
    have HW_ : Below w.heap.size w ((((w1.setCell ⟨w.heap.size + 1, 0, none⟩ (.slice none 0 0)).setCell ⟨w.heap.size + 1, 1, none⟩ (.int .i64 0)).setCell ⟨w.heap.size + 1, 2, none⟩ (.int .i64 0)).setCell ⟨w.heap.size + 1, 3, none⟩ (.slice none 0 0)) := ((((HW.out.setCell (p := ⟨w.heap.size + 1, 0, none⟩) (by first | assumption | omega | (dsimp only; omega) | (have := HW.out.size; omega) | (simp; done) | (simp; omega)) (.slice none 0 0)).setCell (p := ⟨w.heap.size + 1, 1, none⟩) (by first | assumption | omega | (dsimp only; omega) | (have := HW.out.size; omega) | (simp; done) | (simp; omega)) (.int .i64 0)).setCell (p := ⟨w.heap.size + 1, 2, none⟩) (by first | assumption | omega | (dsimp only; omega) | (have := HW.out.size; omega) | (simp; done) | (simp; omega)) (.int .i64 0)).setCell (p := ⟨w.heap.size + 1, 3, none⟩) (by first | assumption | omega | (dsimp only; omega) | (have := HW.out.size; omega) | (simp; done) | (simp; omega)) (.slice none 0 0))
    clear lB1 cB1 fB1 lB2 cB2 fB2
    clear B1 B2 HW
    generalize ((((w1.setCell ⟨w.heap.size + 1, 0, none⟩ (.slice none 0 0)).setCell ⟨w.heap.size + 1, 1, none⟩ (.int .i64 0)).setCell ⟨w.heap.size + 1, 2, none⟩ (.int .i64 0)).setCell ⟨w.heap.size + 1, 3, none⟩ (.slice none 0 0)) = wz at *
    have B1 := Lib.hid B1_
    clear B1_
    have B2 := Lib.hid B2_
    clear B2_
    have HW := Lib.hid HW_
    clear HW_
    obtain ⟨lB1, cB1, fB1⟩ := B1.out
    obtain ⟨lB2, cB2, fB2⟩ := B2.out
    refine bodyPost_ret (v := .tuple #[.agg #[.slice none 0 0, .int .i64 0, .int .i64 0, .slice none 0 0], .int .i64 (checkF f)]) (by simp [results, Try.results43, go_sem, *]) rfl ⟨_, Foot.none, by rw [HWHY.out], by rw [HWHY.out]; exact OFunc.zero, fun _ h => h.elim, HW.out⟩
  have HC0 := Lib.hid hc0
  have hc1 : (checkF f != 0) = false := by simpa using hc0
  have HF := Lib.hid (check_fine hc0).1
  obtain ⟨hn1, h512⟩ := formB_nb HF.out
  rw [← HNB.out] at hn1 h512
  have HSZ := Lib.hid (block_sizes hc0)
  obtain ⟨rfl, hbw⟩ := HBA.out (by omega)

  clear hc0
  cases hq1 : decide (b < 0)
  rotate_left
  · have HWHY : Hid (splitF f b k = (zeroF, 9)) := Lib.hid (splitF_none HC0.out (.inl (by simpa using hq1)))
    go_wp2
    have B1_ : Box ((((w1.setCell ⟨w.heap.size + 1, 0, none⟩ (.slice none 0 0)).setCell ⟨w.heap.size + 1, 1, none⟩ (.int .i64 0)).setCell ⟨w.heap.size + 1, 2, none⟩ (.int .i64 0)).setCell ⟨w.heap.size + 1, 3, none⟩ (.slice none 0 0)) (w.heap.size) #[.slice ap np cp, .int .i64 ar, .int .i64 ce, .slice (some ⟨bb, bo, none⟩) nb cb] := by simpa using ((((B1.out.other (p := ⟨w.heap.size + 1, 0, none⟩) (.slice none 0 0) (by first | assumption | (simp; done) | omega | (dsimp only; omega))).other (p := ⟨w.heap.size + 1, 1, none⟩) (.int .i64 0) (by first | assumption | (simp; done) | omega | (dsimp only; omega))).other (p := ⟨w.heap.size + 1, 2, none⟩) (.int .i64 0) (by first | assumption | (simp; done) | omega | (dsimp only; omega))).other (p := ⟨w.heap.size + 1, 3, none⟩) (.slice none 0 0) (by first | assumption | (simp; done) | omega | (dsimp only; omega)))
    have B2_ : Box ((((w1.setCell ⟨w.heap.size + 1, 0, none⟩ (.slice none 0 0)).setCell ⟨w.heap.size + 1, 1, none⟩ (.int .i64 0)).setCell ⟨w.heap.size + 1, 2, none⟩ (.int .i64 0)).setCell ⟨w.heap.size + 1, 3, none⟩ (.slice none 0 0)) (w.heap.size + 1) #[(.slice none 0 0), (.int .i64 0), (.int .i64 0), (.slice none 0 0)] := by simpa using ((((B2.out.set 0 (.slice none 0 0)).set 1 (.int .i64 0)).set 2 (.int .i64 0)).set 3 (.slice none 0 0))
    have HW_ : Below w.heap.size w ((((w1.setCell ⟨w.heap.size + 1, 0, none⟩ (.slice none 0 0)).setCell ⟨w.heap.size + 1, 1, none⟩ (.int .i64 0)).setCell ⟨w.heap.size + 1, 2, none⟩ (.int .i64 0)).setCell ⟨w.heap.size + 1, 3, none⟩ (.slice none 0 0)) := ((((HW.out.setCell (p := ⟨w.heap.size + 1, 0, none⟩) (by first | assumption | omega | (dsimp only; omega) | (have := HW.out.size; omega) | (simp; done) | (simp; omega)) (.slice none 0 0)).setCell (p := ⟨w.heap.size + 1, 1, none⟩) (by first | assumption | omega | (dsimp only; omega) | (have := HW.out.size; omega) | (simp; done) | (simp; omega)) (.int .i64 0)).setCell (p := ⟨w.heap.size + 1, 2, none⟩) (by first | assumption | omega | (dsimp only; omega) | (have := HW.out.size; omega) | (simp; done) | (simp; omega)) (.int .i64 0)).setCell (p := ⟨w.heap.size + 1, 3, none⟩) (by first | assumption | omega | (dsimp only; omega) | (have := HW.out.size; omega) | (simp; done) | (simp; omega)) (.slice none 0 0))
    clear lB1 cB1 fB1 lB2 cB2 fB2
    clear B1 B2 HW
    generalize ((((w1.setCell ⟨w.heap.size + 1, 0, none⟩ (.slice none 0 0)).setCell ⟨w.heap.size + 1, 1, none⟩ (.int .i64 0)).setCell ⟨w.heap.size + 1, 2, none⟩ (.int .i64 0)).setCell ⟨w.heap.size + 1, 3, none⟩ (.slice none 0 0)) = wz at *
    have B1 := Lib.hid B1_
    clear B1_
    have B2 := Lib.hid B2_
    clear B2_
    have HW := Lib.hid HW_
    clear HW_
    obtain ⟨lB1, cB1, fB1⟩ := B1.out
    obtain ⟨lB2, cB2, fB2⟩ := B2.out
    refine bodyPost_ret (v := .tuple #[.agg #[.slice none 0 0, .int .i64 0, .int .i64 0, .slice none 0 0], .int .i64 9]) (by simp [results, Try.results43, go_sem, *]) rfl ⟨_, Foot.none, by rw [HWHY.out], by rw [HWHY.out]; exact OFunc.zero, fun _ h => h.elim, HW.out⟩
  cases hq2 : decide ((nb : Int) ≤ b)
  rotate_left
  · have HWHY : Hid (splitF f b k = (zeroF, 9)) := Lib.hid (splitF_none HC0.out (.inr (.inl (by rw [← HNB.out]; simpa using hq2))))
    go_wp2
    have B1_ : Box ((((w1.setCell ⟨w.heap.size + 1, 0, none⟩ (.slice none 0 0)).setCell ⟨w.heap.size + 1, 1, none⟩ (.int .i64 0)).setCell ⟨w.heap.size + 1, 2, none⟩ (.int .i64 0)).setCell ⟨w.heap.size + 1, 3, none⟩ (.slice none 0 0)) (w.heap.size) #[.slice ap np cp, .int .i64 ar, .int .i64 ce, .slice (some ⟨bb, bo, none⟩) nb cb] := by simpa using ((((B1.out.other (p := ⟨w.heap.size + 1, 0, none⟩) (.slice none 0 0) (by first | assumption | (simp; done) | omega | (dsimp only; omega))).other (p := ⟨w.heap.size + 1, 1, none⟩) (.int .i64 0) (by first | assumption | (simp; done) | omega | (dsimp only; omega))).other (p := ⟨w.heap.size + 1, 2, none⟩) (.int .i64 0) (by first | assumption | (simp; done) | omega | (dsimp only; omega))).other (p := ⟨w.heap.size + 1, 3, none⟩) (.slice none 0 0) (by first | assumption | (simp; done) | omega | (dsimp only; omega)))
    have B2_ : Box ((((w1.setCell ⟨w.heap.size + 1, 0, none⟩ (.slice none 0 0)).setCell ⟨w.heap.size + 1, 1, none⟩ (.int .i64 0)).setCell ⟨w.heap.size + 1, 2, none⟩ (.int .i64 0)).setCell ⟨w.heap.size + 1, 3, none⟩ (.slice none 0 0)) (w.heap.size + 1) #[(.slice none 0 0), (.int .i64 0), (.int .i64 0), (.slice none 0 0)] := by simpa using ((((B2.out.set 0 (.slice none 0 0)).set 1 (.int .i64 0)).set 2 (.int .i64 0)).set 3 (.slice none 0 0))
    have HW_ : Below w.heap.size w ((((w1.setCell ⟨w.heap.size + 1, 0, none⟩ (.slice none 0 0)).setCell ⟨w.heap.size + 1, 1, none⟩ (.int .i64 0)).setCell ⟨w.heap.size + 1, 2, none⟩ (.int .i64 0)).setCell ⟨w.heap.size + 1, 3, none⟩ (.slice none 0 0)) := ((((HW.out.setCell (p := ⟨w.heap.size + 1, 0, none⟩) (by first | assumption | omega | (dsimp only; omega) | (have := HW.out.size; omega) | (simp; done) | (simp; omega)) (.slice none 0 0)).setCell (p := ⟨w.heap.size + 1, 1, none⟩) (by first | assumption | omega | (dsimp only; omega) | (have := HW.out.size; omega) | (simp; done) | (simp; omega)) (.int .i64 0)).setCell (p := ⟨w.heap.size + 1, 2, none⟩) (by first | assumption | omega | (dsimp only; omega) | (have := HW.out.size; omega) | (simp; done) | (simp; omega)) (.int .i64 0)).setCell (p := ⟨w.heap.size + 1, 3, none⟩) (by first | assumption | omega | (dsimp only; omega) | (have := HW.out.size; omega) | (simp; done) | (simp; omega)) (.slice none 0 0))
    clear lB1 cB1 fB1 lB2 cB2 fB2
    clear B1 B2 HW
    generalize ((((w1.setCell ⟨w.heap.size + 1, 0, none⟩ (.slice none 0 0)).setCell ⟨w.heap.size + 1, 1, none⟩ (.int .i64 0)).setCell ⟨w.heap.size + 1, 2, none⟩ (.int .i64 0)).setCell ⟨w.heap.size + 1, 3, none⟩ (.slice none 0 0)) = wz at *
    have B1 := Lib.hid B1_
    clear B1_
    have B2 := Lib.hid B2_
    clear B2_
    have HW := Lib.hid HW_
    clear HW_
    obtain ⟨lB1, cB1, fB1⟩ := B1.out
    obtain ⟨lB2, cB2, fB2⟩ := B2.out
    refine bodyPost_ret (v := .tuple #[.agg #[.slice none 0 0, .int .i64 0, .int .i64 0, .slice none 0 0], .int .i64 9]) (by simp [results, Try.results43, go_sem, *]) rfl ⟨_, Foot.none, by rw [HWHY.out], by rw [HWHY.out]; exact OFunc.zero, fun _ h => h.elim, HW.out⟩
  obtain ⟨bn, rfl⟩ : ∃ bn : Nat, b = bn := ⟨b.toNat, by simp at hq1; omega⟩
  have hbn : bn < nb := by simp at hq2; omega
  obtain ⟨x, hx⟩ : ∃ x, f.blocks[bn]? = some x := ⟨_, List.getElem?_eq_getElem (by have := HNB.out; omega)⟩
  obtain ⟨api, aii, ati, cpi, cii, cti, hC⟩ := HBX.out bn x hx
  have HX := Lib.hid hx
  have HCX := Lib.hid hC
  have HTO := Lib.hid (formB_to HF.out hx)
  rw [← HNB.out] at HTO
  obtain ⟨k0, k1, k2, k3, k4, k5, -, -, -, -, -, -⟩ := hC.below HW.out hbw
  clear hC hx
  cases hq3 : decide (k < 0)
  rotate_left
  · have HWHY : Hid (splitF f bn k = (zeroF, 9)) := Lib.hid (splitF_none HC0.out (.inr (.inr (.inl (by simpa using hq3)))))
    go_wp2
    have B1_ : Box ((((w1.setCell ⟨w.heap.size + 1, 0, none⟩ (.slice none 0 0)).setCell ⟨w.heap.size + 1, 1, none⟩ (.int .i64 0)).setCell ⟨w.heap.size + 1, 2, none⟩ (.int .i64 0)).setCell ⟨w.heap.size + 1, 3, none⟩ (.slice none 0 0)) (w.heap.size) #[.slice ap np cp, .int .i64 ar, .int .i64 ce, .slice (some ⟨bb, bo, none⟩) nb cb] := by simpa using ((((B1.out.other (p := ⟨w.heap.size + 1, 0, none⟩) (.slice none 0 0) (by first | assumption | (simp; done) | omega | (dsimp only; omega))).other (p := ⟨w.heap.size + 1, 1, none⟩) (.int .i64 0) (by first | assumption | (simp; done) | omega | (dsimp only; omega))).other (p := ⟨w.heap.size + 1, 2, none⟩) (.int .i64 0) (by first | assumption | (simp; done) | omega | (dsimp only; omega))).other (p := ⟨w.heap.size + 1, 3, none⟩) (.slice none 0 0) (by first | assumption | (simp; done) | omega | (dsimp only; omega)))
    have B2_ : Box ((((w1.setCell ⟨w.heap.size + 1, 0, none⟩ (.slice none 0 0)).setCell ⟨w.heap.size + 1, 1, none⟩ (.int .i64 0)).setCell ⟨w.heap.size + 1, 2, none⟩ (.int .i64 0)).setCell ⟨w.heap.size + 1, 3, none⟩ (.slice none 0 0)) (w.heap.size + 1) #[(.slice none 0 0), (.int .i64 0), (.int .i64 0), (.slice none 0 0)] := by simpa using ((((B2.out.set 0 (.slice none 0 0)).set 1 (.int .i64 0)).set 2 (.int .i64 0)).set 3 (.slice none 0 0))
    have HW_ : Below w.heap.size w ((((w1.setCell ⟨w.heap.size + 1, 0, none⟩ (.slice none 0 0)).setCell ⟨w.heap.size + 1, 1, none⟩ (.int .i64 0)).setCell ⟨w.heap.size + 1, 2, none⟩ (.int .i64 0)).setCell ⟨w.heap.size + 1, 3, none⟩ (.slice none 0 0)) := ((((HW.out.setCell (p := ⟨w.heap.size + 1, 0, none⟩) (by first | assumption | omega | (dsimp only; omega) | (have := HW.out.size; omega) | (simp; done) | (simp; omega)) (.slice none 0 0)).setCell (p := ⟨w.heap.size + 1, 1, none⟩) (by first | assumption | omega | (dsimp only; omega) | (have := HW.out.size; omega) | (simp; done) | (simp; omega)) (.int .i64 0)).setCell (p := ⟨w.heap.size + 1, 2, none⟩) (by first | assumption | omega | (dsimp only; omega) | (have := HW.out.size; omega) | (simp; done) | (simp; omega)) (.int .i64 0)).setCell (p := ⟨w.heap.size + 1, 3, none⟩) (by first | assumption | omega | (dsimp only; omega) | (have := HW.out.size; omega) | (simp; done) | (simp; omega)) (.slice none 0 0))
    clear lB1 cB1 fB1 lB2 cB2 fB2
    clear B1 B2 HW
    generalize ((((w1.setCell ⟨w.heap.size + 1, 0, none⟩ (.slice none 0 0)).setCell ⟨w.heap.size + 1, 1, none⟩ (.int .i64 0)).setCell ⟨w.heap.size + 1, 2, none⟩ (.int .i64 0)).setCell ⟨w.heap.size + 1, 3, none⟩ (.slice none 0 0)) = wz at *
    have B1 := Lib.hid B1_
    clear B1_
    have B2 := Lib.hid B2_
    clear B2_
    have HW := Lib.hid HW_
    clear HW_
    obtain ⟨lB1, cB1, fB1⟩ := B1.out
    obtain ⟨lB2, cB2, fB2⟩ := B2.out
    refine bodyPost_ret (v := .tuple #[.agg #[.slice none 0 0, .int .i64 0, .int .i64 0, .slice none 0 0], .int .i64 9]) (by simp [results, Try.results43, go_sem, *]) rfl ⟨_, Foot.none, by rw [HWHY.out], by rw [HWHY.out]; exact OFunc.zero, fun _ h => h.elim, HW.out⟩
  cases hq4 : decide ((x.term.to.length : Int) ≤ k)
  rotate_left
  · have HWHY : Hid (splitF f bn k = (zeroF, 9)) := Lib.hid (splitF_none HC0.out (.inr (.inr (.inr ⟨x, HX.out, by simpa using hq4⟩))))
    go_wp2
    have B1_ : Box ((((w1.setCell ⟨w.heap.size + 1, 0, none⟩ (.slice none 0 0)).setCell ⟨w.heap.size + 1, 1, none⟩ (.int .i64 0)).setCell ⟨w.heap.size + 1, 2, none⟩ (.int .i64 0)).setCell ⟨w.heap.size + 1, 3, none⟩ (.slice none 0 0)) (w.heap.size) #[.slice ap np cp, .int .i64 ar, .int .i64 ce, .slice (some ⟨bb, bo, none⟩) nb cb] := by simpa using ((((B1.out.other (p := ⟨w.heap.size + 1, 0, none⟩) (.slice none 0 0) (by first | assumption | (simp; done) | omega | (dsimp only; omega))).other (p := ⟨w.heap.size + 1, 1, none⟩) (.int .i64 0) (by first | assumption | (simp; done) | omega | (dsimp only; omega))).other (p := ⟨w.heap.size + 1, 2, none⟩) (.int .i64 0) (by first | assumption | (simp; done) | omega | (dsimp only; omega))).other (p := ⟨w.heap.size + 1, 3, none⟩) (.slice none 0 0) (by first | assumption | (simp; done) | omega | (dsimp only; omega)))
    have B2_ : Box ((((w1.setCell ⟨w.heap.size + 1, 0, none⟩ (.slice none 0 0)).setCell ⟨w.heap.size + 1, 1, none⟩ (.int .i64 0)).setCell ⟨w.heap.size + 1, 2, none⟩ (.int .i64 0)).setCell ⟨w.heap.size + 1, 3, none⟩ (.slice none 0 0)) (w.heap.size + 1) #[(.slice none 0 0), (.int .i64 0), (.int .i64 0), (.slice none 0 0)] := by simpa using ((((B2.out.set 0 (.slice none 0 0)).set 1 (.int .i64 0)).set 2 (.int .i64 0)).set 3 (.slice none 0 0))
    have HW_ : Below w.heap.size w ((((w1.setCell ⟨w.heap.size + 1, 0, none⟩ (.slice none 0 0)).setCell ⟨w.heap.size + 1, 1, none⟩ (.int .i64 0)).setCell ⟨w.heap.size + 1, 2, none⟩ (.int .i64 0)).setCell ⟨w.heap.size + 1, 3, none⟩ (.slice none 0 0)) := ((((HW.out.setCell (p := ⟨w.heap.size + 1, 0, none⟩) (by first | assumption | omega | (dsimp only; omega) | (have := HW.out.size; omega) | (simp; done) | (simp; omega)) (.slice none 0 0)).setCell (p := ⟨w.heap.size + 1, 1, none⟩) (by first | assumption | omega | (dsimp only; omega) | (have := HW.out.size; omega) | (simp; done) | (simp; omega)) (.int .i64 0)).setCell (p := ⟨w.heap.size + 1, 2, none⟩) (by first | assumption | omega | (dsimp only; omega) | (have := HW.out.size; omega) | (simp; done) | (simp; omega)) (.int .i64 0)).setCell (p := ⟨w.heap.size + 1, 3, none⟩) (by first | assumption | omega | (dsimp only; omega) | (have := HW.out.size; omega) | (simp; done) | (simp; omega)) (.slice none 0 0))
    clear lB1 cB1 fB1 lB2 cB2 fB2
    clear B1 B2 HW
    generalize ((((w1.setCell ⟨w.heap.size + 1, 0, none⟩ (.slice none 0 0)).setCell ⟨w.heap.size + 1, 1, none⟩ (.int .i64 0)).setCell ⟨w.heap.size + 1, 2, none⟩ (.int .i64 0)).setCell ⟨w.heap.size + 1, 3, none⟩ (.slice none 0 0)) = wz at *
    have B1 := Lib.hid B1_
    clear B1_
    have B2 := Lib.hid B2_
    clear B2_
    have HW := Lib.hid HW_
    clear HW_
    obtain ⟨lB1, cB1, fB1⟩ := B1.out
    obtain ⟨lB2, cB2, fB2⟩ := B2.out
    refine bodyPost_ret (v := .tuple #[.agg #[.slice none 0 0, .int .i64 0, .int .i64 0, .slice none 0 0], .int .i64 9]) (by simp [results, Try.results43, go_sem, *]) rfl ⟨_, Foot.none, by rw [HWHY.out], by rw [HWHY.out]; exact OFunc.zero, fun _ h => h.elim, HW.out⟩
  obtain ⟨kn, rfl⟩ : ∃ kn : Nat, k = kn := ⟨k.toNat, by simp at hq3; omega⟩
  have hkn : kn < x.term.to.length := by simp at hq4; omega
  obtain ⟨q, hq⟩ : ∃ q, x.term.to[kn]? = some q := ⟨_, List.getElem?_eq_getElem hkn⟩
  obtain ⟨ht1, ht2⟩ := HTO.out q (List.mem_of_getElem? hq)
  obtain ⟨tn, rfl⟩ : ∃ tn : Nat, q = tn := ⟨q.toNat, by omega⟩
  have HQT := Lib.hid hq
  clear hq
  cases hq5 : ((nb : Int) == 512)
  rotate_left
  · have HWHY : Hid (splitF f bn kn = (zeroF, 2)) := Lib.hid (splitF_full HC0.out HX.out hkn (.inl (by rw [← HNB.out]; simp at hq5; omega)))
    go_wp2
    have B1_ : Box ((((w1.setCell ⟨w.heap.size + 1, 0, none⟩ (.slice none 0 0)).setCell ⟨w.heap.size + 1, 1, none⟩ (.int .i64 0)).setCell ⟨w.heap.size + 1, 2, none⟩ (.int .i64 0)).setCell ⟨w.heap.size + 1, 3, none⟩ (.slice none 0 0)) (w.heap.size) #[.slice ap np cp, .int .i64 ar, .int .i64 ce, .slice (some ⟨bb, bo, none⟩) nb cb] := by simpa using ((((B1.out.other (p := ⟨w.heap.size + 1, 0, none⟩) (.slice none 0 0) (by first | assumption | (simp; done) | omega | (dsimp only; omega))).other (p := ⟨w.heap.size + 1, 1, none⟩) (.int .i64 0) (by first | assumption | (simp; done) | omega | (dsimp only; omega))).other (p := ⟨w.heap.size + 1, 2, none⟩) (.int .i64 0) (by first | assumption | (simp; done) | omega | (dsimp only; omega))).other (p := ⟨w.heap.size + 1, 3, none⟩) (.slice none 0 0) (by first | assumption | (simp; done) | omega | (dsimp only; omega)))
    have B2_ : Box ((((w1.setCell ⟨w.heap.size + 1, 0, none⟩ (.slice none 0 0)).setCell ⟨w.heap.size + 1, 1, none⟩ (.int .i64 0)).setCell ⟨w.heap.size + 1, 2, none⟩ (.int .i64 0)).setCell ⟨w.heap.size + 1, 3, none⟩ (.slice none 0 0)) (w.heap.size + 1) #[(.slice none 0 0), (.int .i64 0), (.int .i64 0), (.slice none 0 0)] := by simpa using ((((B2.out.set 0 (.slice none 0 0)).set 1 (.int .i64 0)).set 2 (.int .i64 0)).set 3 (.slice none 0 0))
    have HW_ : Below w.heap.size w ((((w1.setCell ⟨w.heap.size + 1, 0, none⟩ (.slice none 0 0)).setCell ⟨w.heap.size + 1, 1, none⟩ (.int .i64 0)).setCell ⟨w.heap.size + 1, 2, none⟩ (.int .i64 0)).setCell ⟨w.heap.size + 1, 3, none⟩ (.slice none 0 0)) := ((((HW.out.setCell (p := ⟨w.heap.size + 1, 0, none⟩) (by first | assumption | omega | (dsimp only; omega) | (have := HW.out.size; omega) | (simp; done) | (simp; omega)) (.slice none 0 0)).setCell (p := ⟨w.heap.size + 1, 1, none⟩) (by first | assumption | omega | (dsimp only; omega) | (have := HW.out.size; omega) | (simp; done) | (simp; omega)) (.int .i64 0)).setCell (p := ⟨w.heap.size + 1, 2, none⟩) (by first | assumption | omega | (dsimp only; omega) | (have := HW.out.size; omega) | (simp; done) | (simp; omega)) (.int .i64 0)).setCell (p := ⟨w.heap.size + 1, 3, none⟩) (by first | assumption | omega | (dsimp only; omega) | (have := HW.out.size; omega) | (simp; done) | (simp; omega)) (.slice none 0 0))
    clear lB1 cB1 fB1 lB2 cB2 fB2
    clear B1 B2 HW
    generalize ((((w1.setCell ⟨w.heap.size + 1, 0, none⟩ (.slice none 0 0)).setCell ⟨w.heap.size + 1, 1, none⟩ (.int .i64 0)).setCell ⟨w.heap.size + 1, 2, none⟩ (.int .i64 0)).setCell ⟨w.heap.size + 1, 3, none⟩ (.slice none 0 0)) = wz at *
    have B1 := Lib.hid B1_
    clear B1_
    have B2 := Lib.hid B2_
    clear B2_
    have HW := Lib.hid HW_
    clear HW_
    obtain ⟨lB1, cB1, fB1⟩ := B1.out
    obtain ⟨lB2, cB2, fB2⟩ := B2.out
    refine bodyPost_ret (v := .tuple #[.agg #[.slice none 0 0, .int .i64 0, .int .i64 0, .slice none 0 0], .int .i64 2]) (by simp [results, Try.results43, go_sem, *]) rfl ⟨_, Foot.none, by rw [HWHY.out], by rw [HWHY.out]; exact OFunc.zero, fun _ h => h.elim, HW.out⟩
  go_wp2_with fail
  clear k0 k1 k2 k3 k4 k5
  refine (refSize (HV.out.below HW.out) (by have := HNB.out; omega)).mono ?_
  rintro e w2 ⟨rfl, hb⟩
  clear lB1 cB1 fB1 lB2 cB2 fB2
  replace B1 := Lib.hid (B1.out.later hb)
  replace B2 := Lib.hid (B2.out.later hb)
  replace HW := Lib.hid (HW.out.trans (hb.mono HW.out.size))
  clear hb
  obtain ⟨lB1, cB1, fB1⟩ := B1.out
  obtain ⟨lB2, cB2, fB2⟩ := B2.out
  obtain ⟨sz, hsz⟩ : ∃ sz, sz = sizeF f := ⟨_, rfl⟩
  rw [← hsz]
  have HZ := Lib.hid hsz
  clear hsz
  cases hq6 : (sz == 4096)
  rotate_left
  · have HWHY : Hid (splitF f bn kn = (zeroF, 2)) := Lib.hid (splitF_full HC0.out HX.out hkn (.inr (by rw [← HZ.out]; simpa using hq6)))
    go_wp2
    have B1_ : Box ((((w2.setCell ⟨w.heap.size + 1, 0, none⟩ (.slice none 0 0)).setCell ⟨w.heap.size + 1, 1, none⟩ (.int .i64 0)).setCell ⟨w.heap.size + 1, 2, none⟩ (.int .i64 0)).setCell ⟨w.heap.size + 1, 3, none⟩ (.slice none 0 0)) (w.heap.size) #[.slice ap np cp, .int .i64 ar, .int .i64 ce, .slice (some ⟨bb, bo, none⟩) nb cb] := by simpa using ((((B1.out.other (p := ⟨w.heap.size + 1, 0, none⟩) (.slice none 0 0) (by first | assumption | (simp; done) | omega | (dsimp only; omega))).other (p := ⟨w.heap.size + 1, 1, none⟩) (.int .i64 0) (by first | assumption | (simp; done) | omega | (dsimp only; omega))).other (p := ⟨w.heap.size + 1, 2, none⟩) (.int .i64 0) (by first | assumption | (simp; done) | omega | (dsimp only; omega))).other (p := ⟨w.heap.size + 1, 3, none⟩) (.slice none 0 0) (by first | assumption | (simp; done) | omega | (dsimp only; omega)))
    have B2_ : Box ((((w2.setCell ⟨w.heap.size + 1, 0, none⟩ (.slice none 0 0)).setCell ⟨w.heap.size + 1, 1, none⟩ (.int .i64 0)).setCell ⟨w.heap.size + 1, 2, none⟩ (.int .i64 0)).setCell ⟨w.heap.size + 1, 3, none⟩ (.slice none 0 0)) (w.heap.size + 1) #[(.slice none 0 0), (.int .i64 0), (.int .i64 0), (.slice none 0 0)] := by simpa using ((((B2.out.set 0 (.slice none 0 0)).set 1 (.int .i64 0)).set 2 (.int .i64 0)).set 3 (.slice none 0 0))
    have HW_ : Below w.heap.size w ((((w2.setCell ⟨w.heap.size + 1, 0, none⟩ (.slice none 0 0)).setCell ⟨w.heap.size + 1, 1, none⟩ (.int .i64 0)).setCell ⟨w.heap.size + 1, 2, none⟩ (.int .i64 0)).setCell ⟨w.heap.size + 1, 3, none⟩ (.slice none 0 0)) := ((((HW.out.setCell (p := ⟨w.heap.size + 1, 0, none⟩) (by first | assumption | omega | (dsimp only; omega) | (have := HW.out.size; omega) | (simp; done) | (simp; omega)) (.slice none 0 0)).setCell (p := ⟨w.heap.size + 1, 1, none⟩) (by first | assumption | omega | (dsimp only; omega) | (have := HW.out.size; omega) | (simp; done) | (simp; omega)) (.int .i64 0)).setCell (p := ⟨w.heap.size + 1, 2, none⟩) (by first | assumption | omega | (dsimp only; omega) | (have := HW.out.size; omega) | (simp; done) | (simp; omega)) (.int .i64 0)).setCell (p := ⟨w.heap.size + 1, 3, none⟩) (by first | assumption | omega | (dsimp only; omega) | (have := HW.out.size; omega) | (simp; done) | (simp; omega)) (.slice none 0 0))
    clear lB1 cB1 fB1 lB2 cB2 fB2
    clear B1 B2 HW
    generalize ((((w2.setCell ⟨w.heap.size + 1, 0, none⟩ (.slice none 0 0)).setCell ⟨w.heap.size + 1, 1, none⟩ (.int .i64 0)).setCell ⟨w.heap.size + 1, 2, none⟩ (.int .i64 0)).setCell ⟨w.heap.size + 1, 3, none⟩ (.slice none 0 0)) = wz at *
    have B1 := Lib.hid B1_
    clear B1_
    have B2 := Lib.hid B2_
    clear B2_
    have HW := Lib.hid HW_
    clear HW_
    obtain ⟨lB1, cB1, fB1⟩ := B1.out
    obtain ⟨lB2, cB2, fB2⟩ := B2.out
    refine bodyPost_ret (v := .tuple #[.agg #[.slice none 0 0, .int .i64 0, .int .i64 0, .slice none 0 0], .int .i64 2]) (by simp [results, Try.results43, go_sem, *]) rfl ⟨_, Foot.none, by rw [HWHY.out], by rw [HWHY.out]; exact OFunc.zero, fun _ h => h.elim, HW.out⟩
  have hnb5 : nb < 512 := by simp at hq5; omega
  have HOK : Hid (splitF f bn kn = (splitAt f bn kn tn ((x.term.to.set kn (f.blocks.length : Int)).contains (tn : Int)), 0)) := Lib.hid (splitF_ok HC0.out HX.out HQT.out (by rw [← HNB.out]; omega) (by rw [← HZ.out]; simpa using hq6))
  go_wp2_with fail
  clear hq1 hq2 hq3 hq4 hq5 hq6 hc1
  refine (refCopy (HV.out.below HW.out) HSZ.out.1 HSZ.out.2).mono ?_
  rintro e w3 ⟨vo, SO, rfl, hO, hFr, hb⟩
  obtain ⟨⟨pa, bv, SQ, SB, rfl, hQ, hOB, hQB, hsq, hsb⟩, hlt, -, -⟩ := hO
  obtain ⟨pa2, pc2, rfl⟩ := hQ.ints.form
  have hl2 : w.heap.size + 2 ≤ w2.heap.size := by omega
  have hl3 : w.heap.size + 2 ≤ w3.heap.size := Nat.le_trans hl2 hb.size
  have HQ : Hid (Holds [w.heap.size, w.heap.size + 1] (w.heap.size + 2) w3 SQ (fun W => OInts W SQ (.slice pa2 np pc2) f.params)) := Lib.hid (by
    have h9 := ((holds_ints hQ (fun k hk => hFr k (hsq k hk))).from hl2).low (bs' := [w.heap.size, w.heap.size + 1]) (by simp)
    rw [← HNP.out] at h9; exact h9)
  have HBK : Hid (Holds [w.heap.size, w.heap.size + 1] (w.heap.size + 2) w3 SB (fun W => OBlocks W SB bv f.blocks)) := Lib.hid (((holds_sl OBlock.nice hOB (fun k hk => hFr k (hsb k hk))).from hl2).low (by simp))
  have HQB := Lib.hid hQB
  obtain ⟨g, cap, hbv⟩ : ∃ g cap, bv = .slice (some ⟨g, 0, none⟩) nb cap := by
    obtain ⟨cs, G, F, hp⟩ := hOB
    obtain ⟨g, cap, hv, -⟩ := hp.row.addr (by have := HNB.out; omega)
    exact ⟨g, cap, by rw [HNB.out]; exact hv⟩
  subst hbv
  rw [← HAC.out.1, ← HAC.out.2, ← HNP.out]
  clear hQ hOB hQB hsq hsb hlt hFr
  clear lB1 cB1 fB1 lB2 cB2 fB2
  replace B1 := Lib.hid (B1.out.later hb)
  replace B2 := Lib.hid (B2.out.later hb)
  replace HW := Lib.hid (HW.out.trans (hb.mono HW.out.size))
  clear hb
  obtain ⟨lB1, cB1, fB1⟩ := B1.out
  obtain ⟨lB2, cB2, fB2⟩ := B2.out

  go_upto_region 9 with (fail)
  replace HQ := Lib.hid (HQ.out.more (Nat.le_refl _))
  replace HBK := Lib.hid (HBK.out.more (Nat.le_refl _))
  have nB3B1 : w3.heap.size ≠ w.heap.size := fun e => by have := lB1; omega
  have nB1B3 : w.heap.size ≠ w3.heap.size := fun e => nB3B1 e.symm
  have nB3B2 : w3.heap.size ≠ w.heap.size + 1 := fun e => by have := lB2; omega
  have nB2B3 : w.heap.size + 1 ≠ w3.heap.size := fun e => nB3B2 e.symm
  have B1_ : Box (w3.alloc (.cells #[.slice pa2 np pc2, .int .i64 ar, .int .i64 ce, .slice (some ⟨g, 0, none⟩) nb cap] 30)) (w.heap.size) #[.slice ap np cp, .int .i64 ar, .int .i64 ce, .slice (some ⟨bb, bo, none⟩) nb cb] := by simpa using (B1.out.alloc _)
  have B2_ : Box (w3.alloc (.cells #[.slice pa2 np pc2, .int .i64 ar, .int .i64 ce, .slice (some ⟨g, 0, none⟩) nb cap] 30)) (w.heap.size + 1) #[.slice none 0 0, .int .i64 0, .int .i64 0, .slice none 0 0] := by simpa using (B2.out.alloc _)
  have B3_ : Box (w3.alloc (.cells #[.slice pa2 np pc2, .int .i64 ar, .int .i64 ce, .slice (some ⟨g, 0, none⟩) nb cap] 30)) (w3.heap.size) #[.slice pa2 np pc2, .int .i64 ar, .int .i64 ce, .slice (some ⟨g, 0, none⟩) nb cap] := by simpa using (Box.new w3 #[.slice pa2 np pc2, .int .i64 ar, .int .i64 ce, .slice (some ⟨g, 0, none⟩) nb cap] 30)
  have HQ_ := (HQ.out.alloc (.cells #[.slice pa2 np pc2, .int .i64 ar, .int .i64 ce, .slice (some ⟨g, 0, none⟩) nb cap] 30))
  have HBK_ := (HBK.out.alloc (.cells #[.slice pa2 np pc2, .int .i64 ar, .int .i64 ce, .slice (some ⟨g, 0, none⟩) nb cap] 30))
  have HW_ : Below w.heap.size w (w3.alloc (.cells #[.slice pa2 np pc2, .int .i64 ar, .int .i64 ce, .slice (some ⟨g, 0, none⟩) nb cap] 30)) := (HW.out.alloc (by first | exact Nat.le_refl _ | exact HW.out.size | (simp only [World.size_alloc, World.size_setCell]; have := HW.out.size; omega)) _)
  clear lB1 cB1 fB1 lB2 cB2 fB2
  clear B1 B2 HQ HBK HW
  generalize (w3.alloc (.cells #[.slice pa2 np pc2, .int .i64 ar, .int .i64 ce, .slice (some ⟨g, 0, none⟩) nb cap] 30)) = w4 at *
  have B1 := Lib.hid B1_
  clear B1_
  have B2 := Lib.hid B2_
  clear B2_
  have B3 := Lib.hid B3_
  clear B3_
  have HQ := Lib.hid HQ_
  clear HQ_
  have HBK := Lib.hid HBK_
  clear HBK_
  have HW := Lib.hid HW_
  clear HW_
  obtain ⟨lB1, cB1, fB1⟩ := B1.out
  obtain ⟨lB2, cB2, fB2⟩ := B2.out
  obtain ⟨lB3, cB3, fB3⟩ := B3.out
  generalize w3.heap.size = b3 at *

  clear nB3B1 nB1B3 nB3B2 nB2B3
  obtain ⟨g', cap', apx, aix, atx, cpx, cix, ctx, S1, S2, S3, hv, hgl, hSg, hC, hfr, -, -, hto, -, -, i3, -, -, -, hng, -, -, hcl⟩ := HBK.out.now.open HX.out
  obtain ⟨rfl, rfl⟩ : g = g' ∧ cap = cap' := by injection hv with h1 h2 h3; injection h1 with h1; injection h1 with h1; exact ⟨h1, h3⟩
  obtain ⟨k0, k1, k2, k3, k4, k5, -, -, -, -, -, -⟩ := hC
  obtain ⟨gt, ctt, ht, hSt, hgtl, hkc, hkf, hset⟩ := hto.addr HQT.out
  cases ht
  clear hv hto
  obtain ⟨m0, m1, m2, m3, m4, m5, -, -, mto, -, -, -⟩ := HCX.out.below HW.out hbw
  obtain ⟨ta, tc, tb, to_, hte, -, -, hta, htx⟩ := mto.parts
  cases hte
  obtain ⟨rfl, htb⟩ := hta (by omega)
  have mtx : w4.cell? ⟨tb, to_ + kn, none⟩ = some (.int .i64 (tn : Int)) := by rw [htx kn hkn, getD_some HQT.out]
  clear mto hta htx
  go_upto_region 11 with (fail)
  clear m0 m1 m2 m3 m4 m5 mtx
  have hni : In64 (nb : Int) := ⟨by omega, by omega⟩
  have hO5 := hset (nb : Int) hni
  have HSG := Lib.hid hSg
  have HST := Lib.hid (i3 _ hSt)
  have HOF : Hid (Off (Foot.one gt) w4 (w4.setCell ⟨gt, kn, none⟩ (.int .i64 (nb : Int)))) := Lib.hid (Off.set w4 ⟨gt, kn, none⟩ (.int .i64 (nb : Int)))
  have HBK5 := Lib.hid (hcl _ _ (HOF.out.mono fun k _ hk => by cases hk; exact hSt) hO5)
  clear hcl hO5 hset hSt hSg hng i3
  go_upto_region 12 with (fail)
  clear lB1 cB1 fB1 lB2 cB2 fB2 lB3 cB3 fB3
  clear k0 k1 k2 k3 k4 k5 hkc hkf hfr
  generalize w4.setCell ⟨gt, kn, none⟩ (.int .i64 (nb : Int)) = w5 at *
  have hbs : ∀ q ∈ [b3, w.heap.size, w.heap.size + 1], ¬ Foot.one gt q := fun q hq h => by cases h; exact HBK.out.free _ HST.out hq
  replace HW := Lib.hid (HW.out.trans (HOF.out.below HW.out.size (fun k _ hk => by cases hk; have := HBK.out.base _ HST.out; omega)))
  replace B1 := Lib.hid (B1.out.off HOF.out (hbs _ (by simp)))
  replace B2 := Lib.hid (B2.out.off HOF.out (hbs _ (by simp)))
  replace B3 := Lib.hid (B3.out.off HOF.out (hbs _ (by simp)))
  replace HQ := Lib.hid (HQ.out.off HOF.out (fun k h1 h2 => HQB.out k h1 (by cases h2; exact HST.out)))
  obtain ⟨bl, hbl⟩ : ∃ bl, bl = f.blocks.set bn (splitTo kn (nb : Int) x) := ⟨_, rfl⟩
  have HBL : Hid (bl = f.blocks.set bn (splitTo kn (nb : Int) x)) := Lib.hid hbl
  have HLEN : Hid (bl.length = nb) := Lib.hid (by rw [hbl, List.length_set, HNB.out])
  have HBK6 : Hid (Holds [b3, w.heap.size, w.heap.size + 1] (w.heap.size + 2) w5 SB (fun W => OBlocks W SB (.slice (some ⟨g, 0, none⟩) nb cap) bl)) :=
    Lib.hid (by rw [hbl]; exact ⟨HBK5.out, fun _ _ h hk => h.keep OBlock.nice hk, HBK5.out.lt, HBK.out.base, HBK.out.free⟩)
  have HBL0 := Lib.hid (HBK6.out.less (bs' := []) (by simp))
  have HQL : Hid (∀ k, SQ k → k < w5.heap.size) := Lib.hid HQ.out.lt
  have ht64 : In64 (tn : Int) := ⟨by omega, by omega⟩
  clear HBK HBK5 HOF hbs hgl hbl

  obtain ⟨lB1, cB1, fB1⟩ := B1.out
  obtain ⟨lB2, cB2, fB2⟩ := B2.out
  obtain ⟨lB3, cB3, fB3⟩ := B3.out
  have hl5 : b3 < w5.heap.size := B3.out.lt
  have HNS : Hid (¬ SB b3) := Lib.hid (fun h => HBK6.out.free _ h (by simp))
  go_upto_region 13 with (at_builtin; go_loud (refine wpList_osnoc OBlock.nice rfl _ _ 28 57 rfl elBlock rfl rfl HLEN.out ((HBL0.out.alloc _).alloc _) (box_new2 _ _ _ _) rfl (jump_block (t := (tn : Int)) ht64 _) (fun k h1 h2 => by cases h1; exact absurd (HBL0.out.lt _ h2) (Nat.lt_irrefl _)) (fun k hk => by cases hk; omega) (by intro b hb; cases hb) (by simp; omega) (by simp [Value.oneCell']) (by omega) (by omega) ?_); intro v2 w7 SN q1 q2 q3 q4; obtain ⟨g2, c2, rfl⟩ := q4; have hB3 := ((B3.out.alloc _).alloc _).off q3 HNS.out; obtain ⟨lx, cx, fx⟩ := hB3)
  clear lx cx fx
  have hwn : w.heap.size + 2 ≤ w5.heap.size := by omega
  have HQN7 : Hid (SQ.off SN) := Lib.hid (fun k h1 h2 => by
    rcases q2 k h2 with h3 | h3 | h3
    · exact HQB.out k h1 h3
    · cases h3; have := HQL.out _ h1; omega
    · have := HQL.out k h1; simp at h3; omega)
  have HBN : Hid (Holds [b3, w.heap.size, w.heap.size + 1] (w.heap.size + 2) w7 SN (fun W => OBlocks W SN (.slice (some ⟨g2, 0, none⟩) (nb + 1) c2) (bl ++ [jumpB (tn : Int)]))) := Lib.hid ⟨q1.now, q1.keep, q1.lt, q1.base, fun k hk => by
    rcases q2 k hk with h3 | h3 | h3
    · exact HBK6.out.free k h3
    · cases h3; simp; omega
    · simp at h3 ⊢; omega⟩
  clear lB1 cB1 fB1 lB2 cB2 fB2 lB3 cB3 fB3
  replace HW := Lib.hid (((HW.out.alloc HW.out.size _).alloc (by simp; have := HW.out.size; omega) _).trans (q3.below (by simp; have := HW.out.size; omega) (fun k _ hk => by have := HBK6.out.base k hk; omega)))
  replace B1 := Lib.hid (((B1.out.alloc _).alloc _).off q3 (fun h => HBK6.out.free _ h (by simp)))
  replace B2 := Lib.hid (((B2.out.alloc _).alloc _).off q3 (fun h => HBK6.out.free _ h (by simp)))
  replace B3 := Lib.hid (((B3.out.alloc _).alloc _).off q3 (fun h => HBK6.out.free _ h (by simp)))
  replace HQ := Lib.hid (((HQ.out.alloc _).alloc _).off q3 (fun k h1 h2 => HQB.out k h1 h2))
  clear q1 q2 q3 HBL0 HBK6 HQL HQB HNS hwn HSG HST


  obtain ⟨lB1, cB1, fB1⟩ := B1.out
  obtain ⟨lB2, cB2, fB2⟩ := B2.out
  obtain ⟨lB3, cB3, fB3⟩ := B3.out
  have B1_ : Box (w7.setCell ⟨b3, 3, none⟩ (.slice (some ⟨g2, 0, none⟩) (nb + 1) c2)) (w.heap.size) #[.slice ap np cp, .int .i64 ar, .int .i64 ce, .slice (some ⟨bb, bo, none⟩) nb cb] := by simpa using (B1.out.other (p := ⟨b3, 3, none⟩) (.slice (some ⟨g2, 0, none⟩) (nb + 1) c2) (by first | assumption | (simp; done) | omega | (dsimp only; omega)))
  have B2_ : Box (w7.setCell ⟨b3, 3, none⟩ (.slice (some ⟨g2, 0, none⟩) (nb + 1) c2)) (w.heap.size + 1) #[.slice none 0 0, .int .i64 0, .int .i64 0, .slice none 0 0] := by simpa using (B2.out.other (p := ⟨b3, 3, none⟩) (.slice (some ⟨g2, 0, none⟩) (nb + 1) c2) (by first | assumption | (simp; done) | omega | (dsimp only; omega)))
  have B3_ : Box (w7.setCell ⟨b3, 3, none⟩ (.slice (some ⟨g2, 0, none⟩) (nb + 1) c2)) (b3) #[.slice pa2 np pc2, .int .i64 ar, .int .i64 ce, (.slice (some ⟨g2, 0, none⟩) (nb + 1) c2)] := by simpa using (B3.out.set 3 (.slice (some ⟨g2, 0, none⟩) (nb + 1) c2))
  have HQ_ := (HQ.out.other (p := ⟨b3, 3, none⟩) (.slice (some ⟨g2, 0, none⟩) (nb + 1) c2) (by simp))
  have HBN_ := (HBN.out.other (p := ⟨b3, 3, none⟩) (.slice (some ⟨g2, 0, none⟩) (nb + 1) c2) (by simp))
  have HW_ : Below w.heap.size w (w7.setCell ⟨b3, 3, none⟩ (.slice (some ⟨g2, 0, none⟩) (nb + 1) c2)) := (HW.out.setCell (p := ⟨b3, 3, none⟩) (by first | assumption | omega | (dsimp only; omega) | (have := HW.out.size; omega) | (simp; done) | (simp; omega)) (.slice (some ⟨g2, 0, none⟩) (nb + 1) c2))
  clear lB1 cB1 fB1 lB2 cB2 fB2 lB3 cB3 fB3
  clear B1 B2 B3 HQ HBN HW
  generalize (w7.setCell ⟨b3, 3, none⟩ (.slice (some ⟨g2, 0, none⟩) (nb + 1) c2)) = w8 at *
  have B1 := Lib.hid B1_
  clear B1_
  have B2 := Lib.hid B2_
  clear B2_
  have B3 := Lib.hid B3_
  clear B3_
  have HQ := Lib.hid HQ_
  clear HQ_
  have HBN := Lib.hid HBN_
  clear HBN_
  have HW := Lib.hid HW_
  clear HW_
  obtain ⟨lB1, cB1, fB1⟩ := B1.out
  obtain ⟨lB2, cB2, fB2⟩ := B2.out
  obtain ⟨lB3, cB3, fB3⟩ := B3.out
  obtain ⟨st, hst⟩ : ∃ st, st = (x.term.to.set kn (nb : Int)).contains (tn : Int) := ⟨_, rfl⟩
  rw [← HNB.out, ← hst] at HOK
  have HST := Lib.hid hst
  clear hst
  have hxb : (bl ++ [jumpB (tn : Int)])[bn]? = some (splitTo kn (nb : Int) x) := by
    have h9 := HLEN.out
    rw [List.getElem?_append_left (by omega), HBL.out, List.getElem?_set, if_pos rfl, if_pos (by have := HNB.out; omega)]
  obtain ⟨g', cap', apx, aix, atx, cpx, cix, ctx, S1, S2, S3, hv, hgl, hSg, hC, hfr, -, -, hto, -, -, i3, -, -, -, hng, -, -, hcl⟩ := HBN.out.now.open hxb
  rw [List.length_append, HLEN.out, List.length_singleton] at hv
  obtain ⟨rfl, rfl⟩ : g2 = g' ∧ c2 = cap' := by injection hv with h1 h2 h3; injection h1 with h1; injection h1 with h1; exact ⟨h1, h3⟩
  obtain ⟨-, -, -, -, k4, -, -, -, -, -, -, -⟩ := hC
  have HTI : Hid (Ints w8 (.slice atx x.term.to.length ctx) (x.term.to.set kn (nb : Int))) := Lib.hid (by have h9 : Ints w8 (.slice atx (x.term.to.set kn (nb : Int)).length ctx) (x.term.to.set kn (nb : Int)) := hto.ints; rw [List.length_set] at h9; exact h9)
  have k4' : w8.cell? ⟨g2, bn * 6 + 4, none⟩ = some (.slice atx x.term.to.length ctx) := by
    have h9 : w8.cell? ⟨g2, bn * 6 + 4, none⟩ = some (.slice atx (x.term.to.set kn (nb : Int)).length ctx) := k4
    rw [List.length_set] at h9; exact h9
  clear hv hSg hto i3 hng hcl hxb k4
  go_wp2_with fail
  refine (refHas HTI.out).mono ?_
  rintro e w9 ⟨rfl, rfl⟩
  rw [← HST.out]
  clear k4' HTI HST hfr
  obtain ⟨y, hyl⟩ : ∃ y, bl[tn]? = some y := ⟨_, List.getElem?_eq_getElem (by have := HLEN.out; omega)⟩
  have hy : (bl ++ [jumpB (tn : Int)])[tn]? = some y := by rw [List.getElem?_append_left (by have := HLEN.out; omega)]; exact hyl
  obtain ⟨y0, hy0⟩ : ∃ y0, f.blocks[tn]? = some y0 := ⟨_, List.getElem?_eq_getElem (by have := HNB.out; omega)⟩
  have HYY : Hid (y0.phis = y.phis) := Lib.hid (by
    rw [HBL.out, List.getElem?_set] at hyl
    split at hyl
    · rename_i e
      subst e
      rw [if_pos (by have := HNB.out; omega)] at hyl
      cases hyl
      rw [HX.out] at hy0
      cases hy0; rfl
    · rw [hy0] at hyl; cases hyl; rfl)
  have HYL := Lib.hid hyl
  have HYP : Hid (∀ p ∈ y.phis, p.src.length = p.vals.length ∧ p.vals.length ≤ 512) := Lib.hid (by
    rw [← HYY.out]
    exact (even_of HF.out).phi y0 (List.mem_of_getElem? hy0))
  have HYN : Hid (∀ p ∈ y.phis, p.src.Nodup) := Lib.hid (fun p hp => by
    rw [← HYY.out] at hp
    have h9 := HF.out
    unfold formB at h9
    simp only [Bool.and_eq_true, List.all_eq_true] at h9
    have h8 := (blockOk_parts.1 (h9.2 (y0, tn) (by rw [List.mem_zipIdx_iff_getElem?]; exact hy0))).2.1 p hp
    unfold phiOk at h8
    simp only [Bool.and_eq_true, decide_eq_true_eq] at h8
    exact h8.2)
  obtain ⟨ap0, ai0, at0, cp0, ci0, ct0, hC0⟩ := HBX.out tn y0 hy0
  obtain ⟨a', c', bp0, op0, he0, hpc0, hpm0, -, hpa0, hpx0⟩ := phis_parts hC0.phis
  cases he0
  obtain ⟨ny, hny⟩ : ∃ ny, ny = y.phis.length := ⟨_, rfl⟩
  have hny5 : ny ≤ 100000 := by
    have := (HSZ.out.1 y0 (List.mem_of_getElem? hy0)).1
    rw [HYY.out] at this; omega
  rw [HYY.out, ← hny] at hpc0 hpa0
  have hcy0 := hC0.c0
  rw [HYY.out, ← hny] at hcy0
  rw [HYY.out] at hpx0
  have HCY := Lib.hid hcy0
  have HPA0 := Lib.hid hpa0
  have HPX0 := Lib.hid hpx0
  obtain ⟨g', cap', apy, aiy, aty, cpy, ciy, cty, T1, T2, T3, hv, hgl2, hSg, hC, hfr, hph, -, -, i1, -, -, -, -, -, hng, hcl, -, -⟩ := HBN.out.now.open hy
  rw [List.length_append, HLEN.out, List.length_singleton] at hv
  obtain ⟨rfl, rfl⟩ : g2 = g' ∧ c2 = cap' := by injection hv with h1 h2 h3; injection h1 with h1; injection h1 with h1; exact ⟨h1, h3⟩
  obtain ⟨k0, -, -, -, -, -, -, -, -, -, -, -⟩ := hC
  have HPH := Lib.hid hph
  have HCL := Lib.hid hcl
  have HT1 := Lib.hid i1
  rw [← hny] at k0 HPH HCL
  have HNY := Lib.hid hny
  have hl8 : w.heap.size + 2 ≤ w8.heap.size := by omega
  have hb8 : b3 < w8.heap.size := B3.out.lt
  clear hv hgl2 hSg hph i1 hng hcl hny hcy0 hpa0 hpx0 hC0 hy hy0 hyl
  go_wp2_with fail
  clear k0 hfr
  have HWz := HW
  have B1z := B1
  have B2z := B2
  have B3z := B3
  have HQ8 := HQ
  go_loopw [14] (fun i wr => ∃ (j : Nat) (Sp : Foot), j ≤ ny ∧ i = .int .i64 j ∧ Off T1 w8 wr ∧ OPhis wr Sp (.slice apy ny cpy) (upTo (splitPhi bn nb st) y.phis j) ∧ ∀ k, Sp k → T1 k ∨ w8.heap.size ≤ k) (fun i _ => ny - (intOf i).toNat)
  case atStart => exact ⟨0, T1, Nat.zero_le _, rfl, Off.refl _ _, by rw [upTo_zero]; exact HPH.out, fun k h => .inl h⟩
  case round =>
    obtain ⟨j, Sp, hj, rfl, hof, hop, hsp⟩ := hrel
    clear lB1 cB1 fB1 lB2 cB2 fB2 lB3 cB3 fB3
    have HOF := Lib.hid hof
    have HOP := Lib.hid hop
    have HSP := Lib.hid hsp
    clear hof hop hsp
    have hfb : ∀ q ∈ [b3, w.heap.size, w.heap.size + 1], ¬ T1 q := fun q hq h => HBN.out.free _ (HT1.out _ h) hq
    have HFB := Lib.hid hfb
    replace HW := Lib.hid (HWz.out.trans (HOF.out.below HWz.out.size (fun k _ hk => by have := HBN.out.base _ (HT1.out k hk); omega)))
    replace B1 := Lib.hid (B1z.out.off HOF.out (hfb _ (by simp)))
    replace B2 := Lib.hid (B2z.out.off HOF.out (hfb _ (by simp)))
    replace B3 := Lib.hid (B3z.out.off HOF.out (hfb _ (by simp)))
    clear hfb
    generalize wr = wo at *

    by_cases hlt : j < ny
    · obtain ⟨p, hpj⟩ : ∃ p, y.phis[j]? = some p := ⟨_, List.getElem?_eq_getElem (by have := HNY.out; omega)⟩
      obtain ⟨hup, hnx⟩ := upTo_at (g := splitPhi bn nb st) hpj
      obtain ⟨rfl, hbp0⟩ := HPA0.out (by omega)
      obtain ⟨af0, av0, cf0, cv0, hP0⟩ := HPX0.out j p hpj
      have HP0 := Lib.hid hP0
      have HUP := Lib.hid hup
      have HNX := Lib.hid hnx
      have HPJ := Lib.hid (HYP.out p (List.mem_of_getElem? hpj))
      have HND := Lib.hid (HYN.out p (List.mem_of_getElem? hpj))
      obtain ⟨lj, hlj⟩ : ∃ lj, lj = p.src.length := ⟨_, rfl⟩
      have HLJ := Lib.hid hlj
      have hlj5 : lj ≤ 512 := by have := HPJ.out; omega
      clear hup hnx hP0 hlj hpj
      obtain ⟨lB1, cB1, fB1⟩ := B1.out
      obtain ⟨lB2, cB2, fB2⟩ := B2.out
      obtain ⟨lB3, cB3, fB3⟩ := B3.out
      go_wp2_with fail
      go_loopw [15] (fun i wr => ∃ (jj : Nat) (Sq : Foot), jj ≤ lj ∧ i = .int .i64 jj ∧ Off T1 w8 wr ∧ OPhis wr Sq (.slice apy ny cpy) ((upTo (splitPhi bn nb st) y.phis j).set j (psiP bn nb st p jj)) ∧ ∀ k, Sq k → T1 k ∨ w8.heap.size ≤ k) (fun i _ => lj - (intOf i).toNat)
      case atStart => exact ⟨0, Sp, Nat.zero_le _, rfl, HOF.out, by rw [psi_zero, set_same HUP.out]; exact HOP.out, HSP.out⟩
      case round =>
        obtain ⟨jj, Sq, hjj, rfl, hof, hop, hsp⟩ := hrel
        clear lB1 cB1 fB1 lB2 cB2 fB2 lB3 cB3 fB3
        replace HOF := Lib.hid hof
        replace HOP := Lib.hid hop
        replace HSP := Lib.hid hsp
        clear hof hop hsp
        replace HW := Lib.hid (HWz.out.trans (HOF.out.below HWz.out.size (fun k _ hk => by have := HBN.out.base _ (HT1.out k hk); omega)))
        replace B1 := Lib.hid (B1z.out.off HOF.out (HFB.out _ (by simp)))
        replace B2 := Lib.hid (B2z.out.off HOF.out (HFB.out _ (by simp)))
        replace B3 := Lib.hid (B3z.out.off HOF.out (HFB.out _ (by simp)))

        obtain ⟨lB1, cB1, fB1⟩ := B1.out
        obtain ⟨lB2, cB2, fB2⟩ := B2.out
        obtain ⟨lB3, cB3, fB3⟩ := B3.out
        have n0 := (HW.out.cell (p := ⟨bb, bo + tn * 6, none⟩) hbw).trans HCY.out
        obtain ⟨-, -, e2, -, -, -, -, -⟩ := HP0.out.below HW.out hbp0
        rw [← HLJ.out] at e2
        by_cases hjl : jj < lj
        · obtain ⟨q, hq⟩ : ∃ q, p.src[jj]? = some q := ⟨_, List.getElem?_eq_getElem (by have := HLJ.out; omega)⟩
          by_cases hqb : q = (bn : Int)
          · subst hqb
            obtain ⟨hs1, hs2, hix⟩ := psi_hit (n := (nb : Int)) (st := st) HND.out hq
            have hop := HOP.out
            rw [hs1, set_same HUP.out] at hop
            obtain ⟨gp, capp, af, av, cf, cv, cs, G, Sf, Sv, hv, hgpl, hGg, hGS, hC, hfr, hc2, hc3, hrow, hsf, hsv, iSf, iSv, hfv, hfG, hvG, hclo⟩ := hop.open HUP.out
            simp only [upTo_len, ← HNY.out] at hv hrow hclo
            cases hv
            obtain ⟨p0, p1, p2, p3, hsrc, hvals, -, -⟩ := hC
            have HM : Hid ((bn : Int) ∈ p.src) := Lib.hid (List.mem_of_getElem? hq)
            have HS2 := Lib.hid hs2
            have HIX := Lib.hid hix
            have HAT := Lib.hid hq
            have HC23 := Lib.hid (And.intro hc2 hc3)
            have HROW := Lib.hid hrow
            have HSF := Lib.hid hsf
            have HSV := Lib.hid hsv
            have HIS := Lib.hid (And.intro hGS (And.intro iSf iSv))
            have HGG := Lib.hid hGg
            have HFV := Lib.hid (And.intro hfv (And.intro hfG hvG))
            have HCLO := Lib.hid hclo
            obtain ⟨gs, cgs, hvs, hSgs, hgsl, hcs, hfrs, hsets⟩ := HSF.out.addr hq
            cases hvs
            have HSGS := Lib.hid hSgs
            have HSETS := Lib.hid hsets
            rw [← HLJ.out] at p2 HC23
            clear hc2 hc3 hrow hsf hsv hGS iSf iSv hGg hfv hfG hvG hclo hsrc hvals hs1 hs2 hix hq hop hSgs hsets
            have hbb : ((bn : Int) != (bn : Int)) = false := by simp
            cases st
            · have HPUT : Hid (OInts (wr.setCell ⟨gs, jj, none⟩ (.int .i64 (nb : Int))) Sf (.slice (some ⟨gs, 0, none⟩) p.src.length cf) (p.src.set jj (nb : Int))) := Lib.hid (HSETS.out _ hni)
              have HOX : Hid (Off (Foot.one gs) wr (wr.setCell ⟨gs, jj, none⟩ (.int .i64 (nb : Int)))) := Lib.hid (Off.set wr ⟨gs, jj, none⟩ (.int .i64 (nb : Int)))
              have HNEW : Hid (OPhis (wr.setCell ⟨gs, jj, none⟩ (.int .i64 (nb : Int))) (fun k => Sq k ∨ Sf k ∨ Sv k) (.slice (some ⟨gp, 0, none⟩) ny cpy) ((upTo (splitPhi bn nb false) y.phis j).set j (psiP bn nb false p (jj + 1)))) := Lib.hid (by
                have h9 := HCLO.out (wr.setCell ⟨gs, jj, none⟩ (.int .i64 (nb : Int))) _ _ (p.src.set jj (nb : Int)) p.vals Sf Sv (HOX.out.mono fun k _ hk => by cases hk; exact .inr (.inl HSGS.out)) (by
                  rw [set_same HC23.out.1, set_same HC23.out.2]
                  exact HROW.out.off HOX.out fun k h1 h2 => by cases h2; exact HFV.out.2.1 _ HSGS.out h1) (by have h8 := HPUT.out; rw [← HLJ.out] at h8; exact h8) (HSV.out.off HOX.out fun k h1 h2 => by cases h2; exact HFV.out.1 _ HSGS.out h1) HFV.out.1 (fun k h => .inl h) (fun k h => .inl h)
                rw [HS2.out, splitPhi_not HM.out, HIX.out]
                exact h9)
              clear HSETS
              go_wp2
              go_roundw
              case rel => exact ⟨jj + 1, _, hjl, by go_num, HOF.out.grow HOX.out (fun k hk => by cases hk; exact HSP.out _ (HIS.out.2.1 _ HSGS.out)), HNEW.out, fun k hk => HSP.out _ (hk.elim id fun h => h.elim (HIS.out.2.1 k) (HIS.out.2.2 k))⟩
              case measure => simp [intOf]; omega
            · have hlv : jj < p.vals.length := by have := HPJ.out.1; have := HLJ.out; omega
              obtain ⟨pv, hpv⟩ : ∃ pv, p.vals[jj]? = some pv := ⟨_, List.getElem?_eq_getElem hlv⟩
              have HPV : Hid (p.vals.getD (p.src.idxOf (bn : Int)) 0 = pv) := Lib.hid (by rw [HIX.out]; exact getD_some hpv)
              have HPVV := Lib.hid hpv
              have hp64 : In64 pv := HSV.out.2 pv (List.mem_of_getElem? hpv)
              have HSFL : Hid (OInts wr Sf (.slice (some ⟨gs, 0, none⟩) lj cf) p.src) := Lib.hid (by rw [HLJ.out]; exact HSF.out)
              have HNG : Hid (¬ Sf gp) := Lib.hid (fun h => HFV.out.2.1 _ h HGG.out)
              have hll : p.src.length = lj := HLJ.out.symm
              clear HSETS hpv hlv
              go_upto_region 24 with (at_builtin; go_loud (refine wpList_iapp rfl _ _ rfl rfl rfl hll (HSFL.out.off (Off.alloc Foot.none wr _) (fun _ _ h => h)) (Box.new _ _ _) hni (by omega) ?_); intro g1 c1 w10 q1 q2 q3; have z2 := (q3.cell (b := gp) (o := j * 4 + 2) (by simp; omega) HNG.out).trans (((Off.alloc Foot.none wr _).cell (o := j * 4 + 2) hgpl (fun h => h)).trans p2); have zf : ∀ o, w10.frozen? ⟨gp, o, none⟩ = false := fun o => (q3.frozen (b := gp) (o := o) (by simp; omega) HNG.out).trans (((Off.alloc Foot.none wr _).frozen (o := o) hgpl (fun h => h)).trans (hfr o)))
              clear z2 zf p0 p1 p2 p3 hfr hcs hfrs e2 n0
              clear lB1 cB1 fB1 lB2 cB2 fB2 lB3 cB3 fB3
              obtain ⟨w11, hw11⟩ : ∃ w11, w11 = w10.setCell ⟨gp, j * 4 + 2, none⟩ (.slice (some ⟨g1, 0, none⟩) (lj + 1) c1) := ⟨_, rfl⟩
              rw [← hw11]
              have hne1 : g1 ≠ gp := fun e => by
                subst e
                rcases q2 with q2 | q2
                · exact HNG.out q2
                · simp at q2; omega
              have HOS : Hid (Off (Foot.one gp) w10 w11) := Lib.hid (by rw [hw11]; exact Off.set w10 ⟨gp, j * 4 + 2, none⟩ _)
              have HOA : Hid (Off (G.or (Sf.or Sv)) wr w11) := Lib.hid (((Off.alloc _ wr _).trans (q3.mono fun k _ hk => .inr (.inl hk))).trans (HOS.out.mono fun k _ hk => by cases hk; exact .inl HGG.out))
              have hg1w : Sf g1 ∨ wr.heap.size ≤ g1 := q2.imp_right (fun h => by simp at h; omega)
              have hv1 : Sv.off (Foot.one g1) := fun k h1 h2 => by
                cases h2
                rcases hg1w with h | h
                · exact HFV.out.1 _ h h1
                · have := HSV.out.lt _ h1; omega
              obtain ⟨p1, hp1⟩ : ∃ p1, p1 = ({ p with src := p.src ++ [(nb : Int)], vals := p.vals } : PhiD) := ⟨_, rfl⟩
              have HP1 := Lib.hid hp1
              have HPH1 : Hid (OPhis w11 (fun k => Sq k ∨ Foot.one g1 k ∨ Sv k) (.slice (some ⟨gp, 0, none⟩) ny cpy) ((upTo (splitPhi bn nb true) y.phis j).set j p1)) := Lib.hid (by
                rw [hp1]
                refine HCLO.out w11 (.slice (some ⟨g1, 0, none⟩) (lj + 1) c1) (.slice av p.vals.length cv) (p.src ++ [(nb : Int)]) p.vals (Foot.one g1) Sv HOA.out ?_ ?_ ?_ ?_ ?_ ?_
                · have h9 := ((HROW.out.off (Off.alloc Foot.none wr (.cells #[.int .i64 (nb : Int)] 3)) (fun _ _ h => h)).off q3 (fun k h1 h2 => HFV.out.2.1 k h2 h1)).set rfl (by omega) (j * 4 + 2) (.slice (some ⟨g1, 0, none⟩) (lj + 1) c1)
                  rw [hw11, set_same (l := cs.set (j * 4 + 2) _) (by rw [List.getElem?_set, if_neg (by omega)]; exact HC23.out.2)]
                  exact h9
                · exact q1.off HOS.out (fun k h1 h2 => by cases h1; exact hne1 h2)
                · exact ((HSV.out.off (Off.alloc Foot.none wr (.cells #[.int .i64 (nb : Int)] 3)) (fun _ _ h => h)).off q3 (fun k h1 h2 => HFV.out.1 k h2 h1)).off HOS.out (fun k h1 h2 => by cases h2; exact HFV.out.2.2 _ h1 HGG.out)
                · exact fun k h1 h2 => hv1 k h2 h1
                · exact fun k hk => by cases hk; exact hg1w
                · exact fun k hk => .inl hk)
              have HSP1 : Hid (∀ k, (Sq k ∨ Foot.one g1 k ∨ Sv k) → T1 k ∨ w8.heap.size ≤ k) := Lib.hid (fun k hk => by
                rcases hk with hk | hk | hk
                · exact HSP.out k hk
                · cases hk
                  rcases hg1w with h | h
                  · exact HSP.out _ (HIS.out.2.1 _ h)
                  · have := HOF.out.size; right; omega
                · exact HSP.out _ (HIS.out.2.2 _ hk))
              have HOF1 : Hid (Off T1 w8 w11) := Lib.hid (HOF.out.grow HOA.out (fun k hk => by
                rcases hk with hk | hk | hk
                · exact HSP.out _ (HIS.out.1 _ hk)
                · exact HSP.out _ (HIS.out.2.1 _ hk)
                · exact HSP.out _ (HIS.out.2.2 _ hk)))
              replace HW := Lib.hid (HWz.out.trans (HOF1.out.below HWz.out.size (fun k _ hk => by have := HBN.out.base _ (HT1.out k hk); omega)))
              have hpv1 : p1.vals[jj]? = some pv := by rw [hp1]; exact HPVV.out
              have hvl1 : p1.vals.length = lj := by rw [hp1]; have := HPJ.out.1; have := HLJ.out; simp only; omega
              have hup3 : ((upTo (splitPhi bn nb true) y.phis j).set j p1)[j]? = some p1 := by rw [List.getElem?_set, if_pos rfl, if_pos (by rw [upTo_len]; have := HNY.out; omega)]
              clear hw11 q1 q2 q3 HOS HOA hg1w hv1 hp1 HCLO HROW HSF HSV HSFL HC23 HIS HFV HNG HSGS HGG hne1 hgsl hgpl
              obtain ⟨gp', capp, af, av, cf2, cv2, cs2, G2, Sf2, Sv2, hv, hgpl, hGg, hGS, hC, hfr, hc2, hc3, hrow, hsf, hsv, iSf, iSv, hfv, hfG, hvG, hclo⟩ := HPH1.out.open hup3
              simp only [List.length_set, upTo_len, ← HNY.out] at hv hrow hclo
              cases hv
              obtain ⟨-, -, -, p3, -, -, -, -⟩ := hC
              obtain ⟨gv2, cgv2, hvv, hSgv, hgvl, hcv, -, -⟩ := hsv.addr hpv1
              cases hvv
              rw [hvl1] at p3 hsv hc3
              have HROW := Lib.hid hrow
              have HC23 := Lib.hid (And.intro hc2 hc3)
              have HSF := Lib.hid hsf
              have HSV := Lib.hid hsv
              have HIS := Lib.hid (And.intro hGS (And.intro iSf iSv))
              have HGG := Lib.hid hGg
              have HFV := Lib.hid (And.intro hfv (And.intro hfG hvG))
              have HCLO := Lib.hid hclo
              obtain ⟨XF, hX16, hXQ⟩ : ∃ XF : Nat → Foot, (∀ k, XF 16 k ↔ Sv2 k) ∧ ∀ q k, XF q k → q = 16 :=
                ⟨fun q => if q = 16 then Sv2 else Foot.none, fun k => by simp, fun q k h => by
                  by_cases e : q = 16
                  · exact e
                  · simp only [if_neg e] at h; exact h.elim⟩
              have HX := Lib.hid (And.intro hX16 hXQ)
              have NGP : Hid (∀ q, ¬ XF q gp) := Lib.hid (fun q hx => by have e := hXQ q _ hx; subst e; exact hvG _ ((hX16 _).1 hx) hGg)
              have xW : ∀ q k, XF q k → k < w11.heap.size := fun q k h => by have e := HX.out.2 q k h; subst e; exact HSV.out.lt k ((HX.out.1 k).1 h)
              have xI : ∀ w w' : World, True → Below w.heap.size w w' → True := fun _ _ _ _ => trivial
              have xI0 : True := trivial
              have xBASE : ∀ k, k < w11.heap.size → Four.All XF k → w.heap.size ≤ k := fun k _ ⟨q, h⟩ => by
                have e := HX.out.2 q k h
                subst e
                rcases HSP1.out k (HIS.out.2.2 k ((HX.out.1 k).1 h)) with h | h
                · have := HBN.out.base _ (HT1.out k h); omega
                · omega
              clear hX16 hXQ hc2 hc3 hrow hsf hsv hGS iSf iSv hGg hfv hfG hvG hclo hSgv hfr hpv1 hup3



              refine Four.wp_region_grow (XF := XF) (I := (fun _ => True)) 19 (fun ν kz => match kz with | 15 => .made w11.heap.size (fun b => .slice (some ⟨b, 0, none⟩) 1 1) #[.int .i64 pv] | 16 => .holds (fun u w' => ∃ (g1 c1 : Nat), u = .slice (some ⟨g1, 0, none⟩) (lj + 1) c1 ∧ OInts w' (Foot.one g1) u (p1.vals ++ [pv]) ∧ (Sv2 g1 ∨ w11.heap.size ≤ g1)) | _ => .plain) (by kernel_rfl) (by kernel_rfl) ?_ ?_ xW xI xI0 ?_ (fun ν => ?_)
              · (intro ν k; (try dsimp only); split <;> first | exact True.intro | (intro u w1 w2 hu hb; (obtain ⟨g1, c1, e1, h1, h2⟩ := hu; exact ⟨g1, c1, e1, h1.off hb (fun k hk ⟨q, hq, hx⟩ => hq (HX.out.2 q k hx)), h2⟩)))
              · (intro ν ν' k h; first | rfl | ((try dsimp only); split <;> first | rfl))
              · (intro ν j B mk A h; (try dsimp only at h); split at h <;> first | (cases h; exact Nat.le_refl _) | cases h)
              simp only [List.take_succ_cons, List.take_zero, List.drop_succ_cons, List.drop_zero]
              iterate 6 (refine Four.Grow.val (v := ?_) rfl rfl (fun wg hbg hdg => ?_) ?_; rotate_left; (focus (clear hbg hdg; first | (go_simp; done) | (go_simp; with_reducible rfl))); simp only [Act.put, List.setIfInBounds_toArray, List.set_cons_zero, List.set_cons_succ])
              refine Four.Grow.val (v := ?_) rfl rfl (fun wg hbg hdg => ?_) ?_
              rotate_left
              focus ((have z3 := (hbg.1.cell hgpl (fun ⟨q, h1, h2, h3⟩ => NGP.out q h3)).trans p3); clear hbg hdg; first | (go_simp; done) | (go_simp; with_reducible rfl))
              simp only [Act.put, List.setIfInBounds_toArray, List.set_cons_zero, List.set_cons_succ]
              iterate 4 (refine Four.Grow.val (v := ?_) rfl rfl (fun wg hbg hdg => ?_) ?_; rotate_left; (focus (clear hbg hdg; first | (go_simp; done) | (go_simp; with_reducible rfl))); simp only [Act.put, List.setIfInBounds_toArray, List.set_cons_zero, List.set_cons_succ])
              refine Four.Grow.val (v := ?_) rfl rfl (fun wg hbg hdg => ?_) ?_
              rotate_left
              focus ((have z3 := (hbg.1.cell hgpl (fun ⟨q, h1, h2, h3⟩ => NGP.out q h3)).trans p3); clear hbg hdg; first | (go_simp; done) | (go_simp; with_reducible rfl))
              simp only [Act.put, List.setIfInBounds_toArray, List.set_cons_zero, List.set_cons_succ]
              iterate 2 (refine Four.Grow.val (v := ?_) rfl rfl (fun wg hbg hdg => ?_) ?_; rotate_left; (focus (clear hbg hdg; first | (go_simp; done) | (go_simp; with_reducible rfl))); simp only [Act.put, List.setIfInBounds_toArray, List.set_cons_zero, List.set_cons_succ])
              refine Four.Grow.val (v := ?_) rfl rfl (fun wg hbg hdg => ?_) ?_
              rotate_left
              focus ((have z4 := (hbg.1.cell hgvl (fun ⟨q, h1, h2, h3⟩ => by have e := HX.out.2 q _ h3; subst e; exact absurd (h2.symm.trans (by kernel_rfl : _ = true)) Bool.false_ne_true)).trans hcv); clear hbg hdg; first | (go_simp; done) | (go_simp; with_reducible rfl))
              simp only [Act.put, List.setIfInBounds_toArray, List.set_cons_zero, List.set_cons_succ]
              refine Four.Grow.made (T := ?_) rfl rfl (fun wg hbg hdg => ?_) ?_
              rotate_left
              focus (clear hbg hdg; first | (go_simp; done) | (go_simp; with_reducible rfl))
              simp only [Act.put, Known.val, List.setIfInBounds_toArray, List.set_cons_zero, List.set_cons_succ]
              refine Four.Grow.gives rfl (fun wg hbg hdg => ?_) ?_
              focus ((obtain ⟨bx, e15, hbx, hB15⟩ := hdg 15 (by kernel_rfl)); simp only [e15]; exact gives_iapp2 (xs := p1.vals) (n := lj) _ _ rfl rfl rfl hvl1 (HSV.out.off hbg.1 (fun k hk ⟨q, hq, _, hx⟩ => hq (HX.out.2 q k hx))) hB15 hp64 (by omega) (fun k hk => (HX.out.1 k).2 hk) (fun g1 c1 w'' h2 h3 => ⟨g1, c1, rfl, h2, h3.imp_right (Nat.le_trans hbg.1.size)⟩))
              simp only [Act.put, Known.val, List.setIfInBounds_toArray, List.set_cons_zero, List.set_cons_succ]
              iterate 2 (refine Four.Grow.val (v := ?_) rfl rfl (fun wg hbg hdg => ?_) ?_; rotate_left; (focus (clear hbg hdg; first | (go_simp; done) | (go_simp; with_reducible rfl))); simp only [Act.put, List.setIfInBounds_toArray, List.set_cons_zero, List.set_cons_succ])
              intro wg hb hf hap
              obtain ⟨bBY, hνBY, hBBY, hXBY⟩ := hf 15 (by omega)
              simp only [hνBY]
              clear hνBY
              clear hap
              have gBY := Nat.le_trans HW.out.size hBBY
              clear hBBY
              replace HW := Lib.hid (HW.out.trans (hb.1.below HW.out.size xBASE))
              have BY := Lib.hid hXBY
              clear hXBY
              obtain ⟨lBY, cBY, fBY⟩ := BY.out
              simp only [Nat.zero_add, Nat.reduceAdd]
              have h16 : ∃ (g1 c1 : Nat), ν 16 = .slice (some ⟨g1, 0, none⟩) (lj + 1) c1 ∧ OInts wg (Foot.one g1) (ν 16) (p1.vals ++ [pv]) ∧ (Sv2 g1 ∨ w11.heap.size ≤ g1) := hf 16 (by omega)
              obtain ⟨g16, c16, e16, o16, q16⟩ := h16
              simp only [e16]
              rw [e16] at o16
              have HROWG := Lib.hid (HROW.out.off hb.1 (fun k h1 ⟨q, h2⟩ => by have e := HX.out.2 q k h2; subst e; exact HFV.out.2.2 k ((HX.out.1 k).1 h2) h1))
              obtain ⟨g9, c9, e9, -, -, -, -, hc9, hf9⟩ := HROWG.out.addr (by omega)
              cases e9
              have z3 := hc9 (j * 4 + 3) _ HC23.out.2
              have HOFW : Hid (Off Sv2 w11 wg) := Lib.hid (hb.1.mono fun k _ ⟨q, h⟩ => by have e := HX.out.2 q k h; subst e; exact (HX.out.1 k).1 h)
              have HNG : Hid (g16 ≠ gp) := Lib.hid (fun e => by
                subst e
                rcases q16 with h | h
                · exact HFV.out.2.2 _ h HGG.out
                · omega)
              have HSET : Hid (Off (Foot.one gp) wg (wg.setCell ⟨gp, j * 4 + 3, none⟩ (.slice (some ⟨g16, 0, none⟩) (lj + 1) c16))) := Lib.hid (Off.set wg ⟨gp, j * 4 + 3, none⟩ _)
              have HNEW : Hid (OPhis (wg.setCell ⟨gp, j * 4 + 3, none⟩ (.slice (some ⟨g16, 0, none⟩) (lj + 1) c16)) (fun k => (Sq k ∨ Foot.one g1 k ∨ Sv k) ∨ Sf2 k ∨ Foot.one g16 k) (.slice (some ⟨gp, 0, none⟩) ny cpy) ((upTo (splitPhi bn nb true) y.phis j).set j (psiP bn nb true p (jj + 1)))) := Lib.hid (by
                have h9 := HCLO.out (wg.setCell ⟨gp, j * 4 + 3, none⟩ (.slice (some ⟨g16, 0, none⟩) (lj + 1) c16)) _ _ p1.src (p1.vals ++ [pv]) Sf2 (Foot.one g16)
                  ((HOFW.out.mono fun k _ h => .inr (.inr h)).trans (HSET.out.mono fun k _ hk => by cases hk; exact .inl HGG.out))
                  (by rw [set_same HC23.out.1]; exact HROWG.out.set rfl (by omega) (j * 4 + 3) _)
                  ((HSF.out.off HOFW.out HFV.out.1).off HSET.out fun k h1 h2 => by cases h2; exact HFV.out.2.1 _ h1 HGG.out)
                  (o16.off HSET.out fun k h1 h2 => by cases h1; exact HNG.out h2)
                  (fun k h1 h2 => by
                    cases h2
                    rcases q16 with h | h
                    · exact HFV.out.1 _ h1 h
                    · have := HSF.out.lt _ h1; omega)
                  (fun k h => .inl h) (fun k hk => by cases hk; exact q16)
                rw [List.set_set] at h9
                rw [HS2.out, splitPhi_still HM.out, HPV.out]
                rw [HP1.out] at h9
                exact h9)
              have HSP2 : Hid (∀ k, ((Sq k ∨ Foot.one g1 k ∨ Sv k) ∨ Sf2 k ∨ Foot.one g16 k) → T1 k ∨ w8.heap.size ≤ k) := Lib.hid (fun k hk => by
                have h0 := HOF1.out.size
                rcases hk with hk | hk | hk
                · exact HSP1.out k hk
                · exact HSP1.out k (HIS.out.2.1 k hk)
                · cases hk
                  rcases q16 with h | h
                  · exact HSP1.out _ (HIS.out.2.2 _ h)
                  · right; omega)
              have HOF2 : Hid (Off T1 w8 (wg.setCell ⟨gp, j * 4 + 3, none⟩ (.slice (some ⟨g16, 0, none⟩) (lj + 1) c16))) := Lib.hid ((HOF1.out.grow HOFW.out (fun k h => HSP1.out k (HIS.out.2.2 k h))).grow HSET.out (fun k hk => by cases hk; exact HSP1.out _ (HIS.out.1 _ HGG.out)))
              clear hf hb e16 o16 q16 hc9
              go_wp2
              go_roundw
              case rel => exact ⟨jj + 1, _, hjl, by go_num, HOF2.out, HNEW.out, HSP2.out⟩
              case measure => simp [intOf]; omega
          · have HQB2 := Lib.hid hqb
            have HQQ := Lib.hid hq
            have hup2 : ((upTo (splitPhi bn nb st) y.phis j).set j (psiP bn nb st p jj))[j]? = some (psiP bn nb st p jj) := by
              rw [List.getElem?_set, if_pos rfl, if_pos (by rw [upTo_len]; have := HNY.out; omega)]
            have hq2 : (psiP bn nb st p jj).src[jj]? = some q := psi_at hq hqb
            obtain ⟨gp, capp, af, av, cf, cv, cs, G, Sf, Sv, hv, hgpl, hGg, hGS, hC, hfr, hc2, hc3, hrow, hsf, hsv, iSf, iSv, hfv, hfG, hvG, hclo⟩ := HOP.out.open hup2
            simp only [List.length_set, upTo_len, ← HNY.out] at hv
            cases hv
            obtain ⟨p0, p1, p2, p3, hsrc, hvals, -, -⟩ := hC
            obtain ⟨gs, cgs, hvs, hSgs, hgsl, hcs, hfrs, hsets⟩ := hsf.addr hq2
            cases hvs
            have hlp : jj < (psiP bn nb st p jj).src.length := (List.getElem?_eq_some_iff.1 hq2).1
            have hqq : (q != (bn : Int)) = true := by simpa using hqb
            obtain ⟨lp, hlp2⟩ : ∃ lp, lp = (psiP bn nb st p jj).src.length := ⟨_, rfl⟩
            rw [← hlp2] at p2 hlp
            have HNEW : Hid (OPhis wr Sq (.slice (some ⟨gp, 0, none⟩) ny cpy) ((upTo (splitPhi bn nb st) y.phis j).set j (psiP bn nb st p (jj + 1)))) := Lib.hid (by rw [psi_skip hq hqb]; exact HOP.out)
            clear hc2 hc3 hrow hsf hsv hGS iSf iSv hGg hfv hfG hvG hclo hsrc hvals hSgs hsets hup2 hq hqb hq2 hlp2
            go_wp2
            go_roundw
            case rel => exact ⟨jj + 1, _, hjl, by go_num, HOF.out, HNEW.out, HSP.out⟩
            case measure => simp [intOf]; omega
        · have hjn : jj = lj := by omega
          have HNEW : Hid (OPhis wr Sq (.slice apy ny cpy) (upTo (splitPhi bn nb st) y.phis (j + 1))) := Lib.hid (by
            have h9 := HOP.out
            rw [hjn, HLJ.out, psi_all, HNX.out] at h9; exact h9)
          clear hjn
          go_wp2
          go_roundw
          case rel => exact ⟨j + 1, _, hlt, by go_num, HOF.out, HNEW.out, HSP.out⟩
          case measure => simp [intOf]; omega
    · have hjn : j = ny := by omega
      have HMAP : Hid (OPhis wo Sp (.slice apy ny cpy) (y.phis.map (splitPhi bn nb st))) := Lib.hid (by
        have h9 := HOP.out
        rw [hjn, HNY.out, upTo_all, ← HNY.out] at h9; exact h9)
      clear hjn
      have HSPLIT : Hid ((splitAt f bn kn tn st).blocks = (bl ++ [jumpB (tn : Int)]).set tn { y with phis := y.phis.map (splitPhi bn nb st) }) := Lib.hid (by
        have h9 := splitAt_set (f := f) (k := kn) HX.out (by rw [← HNB.out, ← HBL.out]; exact HYL.out) st
        rw [← HNB.out, ← HBL.out] at h9
        rw [h9, List.set_append_left _ _ (by have := HLEN.out; omega)]
        rfl)
      have HBL2 : Hid (OBlocks wo (fun k => SN k ∨ Sp k) (.slice (some ⟨g2, 0, none⟩) (nb + 1) c2) (splitAt f bn kn tn st).blocks) := Lib.hid (by rw [HSPLIT.out]; exact HCL.out wo Sp _ HOF.out HMAP.out HSP.out)
      have HFREE : Hid (∀ k, (SN k ∨ Sp k) → k ∉ [b3, w.heap.size, w.heap.size + 1] ∧ w.heap.size + 2 ≤ k) := Lib.hid (fun k hk => by
        rcases hk with hk | hk
        · exact ⟨HBN.out.free k hk, HBN.out.base k hk⟩
        · rcases HSP.out k hk with hk | hk
          · exact ⟨HBN.out.free k (HT1.out k hk), HBN.out.base k (HT1.out k hk)⟩
          · exact ⟨by simp; omega, by omega⟩)
      have HBF : Hid (Holds [b3, w.heap.size, w.heap.size + 1] (w.heap.size + 2) wo (fun k => SN k ∨ Sp k) (fun W => OBlocks W (fun k => SN k ∨ Sp k) (.slice (some ⟨g2, 0, none⟩) (nb + 1) c2) (splitAt f bn kn tn st).blocks)) :=
        Lib.hid ⟨HBL2.out, fun _ _ h hk => h.keep OBlock.nice hk, HBL2.out.lt, fun k hk => (HFREE.out k hk).2, fun k hk => (HFREE.out k hk).1⟩
      have HQF : Hid (SQ.off (fun k => SN k ∨ Sp k)) := Lib.hid (fun k h1 h2 => by
        rcases h2 with h2 | h2
        · exact HQN7.out k h1 h2
        · rcases HSP.out k h2 with h2 | h2
          · exact HQN7.out k h1 (HT1.out k h2)
          · have := HQ8.out.lt k h1; omega)
      replace HQ := Lib.hid (HQ8.out.off HOF.out (fun k h1 h2 => HQN7.out k h1 (HT1.out k h2)))
      clear HBL2 HMAP HOP HFREE HQ8

      obtain ⟨lB1, cB1, fB1⟩ := B1.out
      obtain ⟨lB2, cB2, fB2⟩ := B2.out
      obtain ⟨lB3, cB3, fB3⟩ := B3.out
      go_wp2
      have B1_ : Box ((((wo.setCell ⟨w.heap.size + 1, 0, none⟩ (.slice pa2 np pc2)).setCell ⟨w.heap.size + 1, 1, none⟩ (.int .i64 ar)).setCell ⟨w.heap.size + 1, 2, none⟩ (.int .i64 ce)).setCell ⟨w.heap.size + 1, 3, none⟩ (.slice (some ⟨g2, 0, none⟩) (nb + 1) c2)) (w.heap.size) #[.slice ap np cp, .int .i64 ar, .int .i64 ce, .slice (some ⟨bb, bo, none⟩) nb cb] := by simpa using ((((B1.out.other (p := ⟨w.heap.size + 1, 0, none⟩) (.slice pa2 np pc2) (by first | assumption | (simp; done) | omega | (dsimp only; omega))).other (p := ⟨w.heap.size + 1, 1, none⟩) (.int .i64 ar) (by first | assumption | (simp; done) | omega | (dsimp only; omega))).other (p := ⟨w.heap.size + 1, 2, none⟩) (.int .i64 ce) (by first | assumption | (simp; done) | omega | (dsimp only; omega))).other (p := ⟨w.heap.size + 1, 3, none⟩) (.slice (some ⟨g2, 0, none⟩) (nb + 1) c2) (by first | assumption | (simp; done) | omega | (dsimp only; omega)))
      have B2_ : Box ((((wo.setCell ⟨w.heap.size + 1, 0, none⟩ (.slice pa2 np pc2)).setCell ⟨w.heap.size + 1, 1, none⟩ (.int .i64 ar)).setCell ⟨w.heap.size + 1, 2, none⟩ (.int .i64 ce)).setCell ⟨w.heap.size + 1, 3, none⟩ (.slice (some ⟨g2, 0, none⟩) (nb + 1) c2)) (w.heap.size + 1) #[(.slice pa2 np pc2), (.int .i64 ar), (.int .i64 ce), (.slice (some ⟨g2, 0, none⟩) (nb + 1) c2)] := by simpa using ((((B2.out.set 0 (.slice pa2 np pc2)).set 1 (.int .i64 ar)).set 2 (.int .i64 ce)).set 3 (.slice (some ⟨g2, 0, none⟩) (nb + 1) c2))
      have B3_ : Box ((((wo.setCell ⟨w.heap.size + 1, 0, none⟩ (.slice pa2 np pc2)).setCell ⟨w.heap.size + 1, 1, none⟩ (.int .i64 ar)).setCell ⟨w.heap.size + 1, 2, none⟩ (.int .i64 ce)).setCell ⟨w.heap.size + 1, 3, none⟩ (.slice (some ⟨g2, 0, none⟩) (nb + 1) c2)) (b3) #[.slice pa2 np pc2, .int .i64 ar, .int .i64 ce, (.slice (some ⟨g2, 0, none⟩) (nb + 1) c2)] := by simpa using ((((B3.out.other (p := ⟨w.heap.size + 1, 0, none⟩) (.slice pa2 np pc2) (by first | assumption | (simp; done) | omega | (dsimp only; omega))).other (p := ⟨w.heap.size + 1, 1, none⟩) (.int .i64 ar) (by first | assumption | (simp; done) | omega | (dsimp only; omega))).other (p := ⟨w.heap.size + 1, 2, none⟩) (.int .i64 ce) (by first | assumption | (simp; done) | omega | (dsimp only; omega))).other (p := ⟨w.heap.size + 1, 3, none⟩) (.slice (some ⟨g2, 0, none⟩) (nb + 1) c2) (by first | assumption | (simp; done) | omega | (dsimp only; omega)))
      have HQ_ := ((((HQ.out.other (p := ⟨w.heap.size + 1, 0, none⟩) (.slice pa2 np pc2) (by simp)).other (p := ⟨w.heap.size + 1, 1, none⟩) (.int .i64 ar) (by simp)).other (p := ⟨w.heap.size + 1, 2, none⟩) (.int .i64 ce) (by simp)).other (p := ⟨w.heap.size + 1, 3, none⟩) (.slice (some ⟨g2, 0, none⟩) (nb + 1) c2) (by simp))
      have HBF_ := ((((HBF.out.other (p := ⟨w.heap.size + 1, 0, none⟩) (.slice pa2 np pc2) (by simp)).other (p := ⟨w.heap.size + 1, 1, none⟩) (.int .i64 ar) (by simp)).other (p := ⟨w.heap.size + 1, 2, none⟩) (.int .i64 ce) (by simp)).other (p := ⟨w.heap.size + 1, 3, none⟩) (.slice (some ⟨g2, 0, none⟩) (nb + 1) c2) (by simp))
      have HW_ : Below w.heap.size w ((((wo.setCell ⟨w.heap.size + 1, 0, none⟩ (.slice pa2 np pc2)).setCell ⟨w.heap.size + 1, 1, none⟩ (.int .i64 ar)).setCell ⟨w.heap.size + 1, 2, none⟩ (.int .i64 ce)).setCell ⟨w.heap.size + 1, 3, none⟩ (.slice (some ⟨g2, 0, none⟩) (nb + 1) c2)) := ((((HW.out.setCell (p := ⟨w.heap.size + 1, 0, none⟩) (by first | assumption | omega | (dsimp only; omega) | (have := HW.out.size; omega) | (simp; done) | (simp; omega)) (.slice pa2 np pc2)).setCell (p := ⟨w.heap.size + 1, 1, none⟩) (by first | assumption | omega | (dsimp only; omega) | (have := HW.out.size; omega) | (simp; done) | (simp; omega)) (.int .i64 ar)).setCell (p := ⟨w.heap.size + 1, 2, none⟩) (by first | assumption | omega | (dsimp only; omega) | (have := HW.out.size; omega) | (simp; done) | (simp; omega)) (.int .i64 ce)).setCell (p := ⟨w.heap.size + 1, 3, none⟩) (by first | assumption | omega | (dsimp only; omega) | (have := HW.out.size; omega) | (simp; done) | (simp; omega)) (.slice (some ⟨g2, 0, none⟩) (nb + 1) c2))
      clear lB1 cB1 fB1 lB2 cB2 fB2 lB3 cB3 fB3
      clear B1 B2 B3 HQ HBF HW
      generalize ((((wo.setCell ⟨w.heap.size + 1, 0, none⟩ (.slice pa2 np pc2)).setCell ⟨w.heap.size + 1, 1, none⟩ (.int .i64 ar)).setCell ⟨w.heap.size + 1, 2, none⟩ (.int .i64 ce)).setCell ⟨w.heap.size + 1, 3, none⟩ (.slice (some ⟨g2, 0, none⟩) (nb + 1) c2)) = w9 at *
      have B1 := Lib.hid B1_
      clear B1_
      have B2 := Lib.hid B2_
      clear B2_
      have B3 := Lib.hid B3_
      clear B3_
      have HQ := Lib.hid HQ_
      clear HQ_
      have HBF := Lib.hid HBF_
      clear HBF_
      have HW := Lib.hid HW_
      clear HW_
      obtain ⟨lB1, cB1, fB1⟩ := B1.out
      obtain ⟨lB2, cB2, fB2⟩ := B2.out
      obtain ⟨lB3, cB3, fB3⟩ := B3.out
      refine bodyPost_ret (v := .tuple #[.agg #[.slice pa2 np pc2, .int .i64 ar, .int .i64 ce, .slice (some ⟨g2, 0, none⟩) (nb + 1) c2], .int .i64 0]) (by simp [results, Try.results43, go_sem, *]) rfl ⟨_, fun q => SQ q ∨ (SN q ∨ Sp q), by rw [HOK.out], by rw [HOK.out]; exact ⟨⟨_, _, SQ, _, by rw [HAC.out.1, HAC.out.2]; rfl, HQ.out.now, HBF.out.now, HQF.out, fun k h => .inl h, fun k h => .inr h⟩, fun k hk => hk.elim (HQ.out.lt k) (HBF.out.lt k), HA64.out.1, HA64.out.2⟩, fun k hk => ?_, HW.out⟩
      rcases hk with hk | hk
      · have := HQ.out.base k hk; omega
      · have := HBF.out.base k hk; omega
end Go.Proofs.Ytefpmjnimnmniaa
