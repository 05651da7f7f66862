/- What the claim needs, part 40. -/
import Derived.Test.YtefpmjnimnmniaaG39
import Derived.Test.YtefpmjnimnmniaaG23
import Derived.ArgAppend
import Derived.Test.YtefpmjnimnmniaaG32
import Derived.Deep.LoopGhost
import Derived.OwnWalk
import Derived.Test.YtefpmjnimnmniaaG14
import Derived.RangeFuncNested
import Derived.RangeFuncBound
import Derived.RangeFuncBox
import Derived.RangeFuncLeaves
import Derived.Shelf.Abstract
import Derived.OwnWalkIn
import Derived.TacticsInMore
import Derived.LoopNIn
import Derived.LoopIn
import Derived.Maps.AppendAt
import Derived.Shelf.Sort.Plain
import Derived.Shelf.Slices.In.SortNone
import Derived.Sort.OwnSortedInts
import Derived.Maps.RangeWalk
import Derived.Test.YtefpmjnimnmniaaG31
import Derived.Test.YtefpmjnimnmniaaG34
import Derived.Test.YtefpmjnimnmniaaG37
import Derived.Test.YtefpmjnimnmniaaG25
namespace Go.Proofs.Ytefpmjnimnmniaa
set_option linter.unusedSimpArgs false
set_option linter.unusedVariables false
open Go.RowKit
theorem func_eq {x y : FuncD} (h1 : x.params = y.params) (h2 : x.arrays = y.arrays) (h3 : x.cells = y.cells) (h4 : x.blocks = y.blocks) : x = y := by
  obtain ⟨a, b, c, d⟩ := x
  obtain ⟨a', b', c', d'⟩ := y
  simp only at h1 h2 h3 h4
  subst h1 h2 h3 h4
  rfl
set_option maxHeartbeats 25600000 in
set_option maxRecDepth 100000 in
theorem refSame {w : World} {v u : Value} {x y : FuncD} (hv : FuncV w v x) (hu : FuncV w u y) :
    Calls Try.prog 44 #[v, u] w fun e w' => e = .returned (.bool (decide (x = y))) ∧ Below w.heap.size w w' := by
  obtain ⟨ap, cp, ab, cb, rfl, hp, -, -, hB⟩ := hv.form
  obtain ⟨ap2, cp2, ab2, cb2, rfl, hp2, -, -, hB2⟩ := hu.form
  obtain ⟨a', c', bb, bo, hbe, hbc, hbm, -, hba, hbx⟩ := blocks_parts hB
  cases hbe
  obtain ⟨a', c', bb2, bo2, hbe, hbc2, hbm2, -, hba2, hbx2⟩ := blocks_parts hB2
  cases hbe
  obtain ⟨np, hnp⟩ : ∃ n, n = x.params.length := ⟨_, rfl⟩
  obtain ⟨nb, hnb⟩ : ∃ n, n = x.blocks.length := ⟨_, rfl⟩
  obtain ⟨ar, har⟩ : ∃ n, n = x.arrays := ⟨_, rfl⟩
  obtain ⟨ce, hce⟩ : ∃ n, n = x.cells := ⟨_, rfl⟩
  obtain ⟨np2, hnp2⟩ : ∃ n, n = y.params.length := ⟨_, rfl⟩
  obtain ⟨nb2, hnb2⟩ : ∃ n, n = y.blocks.length := ⟨_, rfl⟩
  obtain ⟨ar2, har2⟩ : ∃ n, n = y.arrays := ⟨_, rfl⟩
  obtain ⟨ce2, hce2⟩ : ∃ n, n = y.cells := ⟨_, rfl⟩
  obtain ⟨q, hq⟩ : ∃ q, q = decide (x = y) := ⟨_, rfl⟩
  rw [← hq, ← hnp, ← hnb, ← har, ← hce, ← hnp2, ← hnb2, ← har2, ← hce2]
  rw [← hnb] at hbc hba
  rw [← hnb2] at hbc2 hba2
  rw [← hnp] at hp
  rw [← hnp2] at hp2
  have HQ := Lib.hid hq
  have HNB := Lib.hid hnb
  have HNB2 := Lib.hid hnb2
  have HAR := Lib.hid (And.intro har har2)
  have HCE := Lib.hid (And.intro hce hce2)
  have HP := Lib.hid hp
  have HP2 := Lib.hid hp2
  have HBA := Lib.hid hba
  have HBX := Lib.hid hbx
  have HBA2 := Lib.hid hba2
  have HBX2 := Lib.hid hbx2
  clear hp hp2 hB hB2 hq hnp hnb har hce hnp2 hnb2 har2 hce2 hba hbx hba2 hbx2 hv hu
  go_enter Try.func44, Try.ntmps44
  go_upto_region 1 with (fail)
  have B1 : Hid (Box ((w.alloc (.cells #[.slice ap np cp, .int .i64 ar, .int .i64 ce, .slice ab nb cb] 30)).alloc (.cells #[.slice ap2 np2 cp2, .int .i64 ar2, .int .i64 ce2, .slice ab2 nb2 cb2] 30)) (w.heap.size) #[.slice ap np cp, .int .i64 ar, .int .i64 ce, .slice ab nb cb]) := Lib.hid (by simpa using ((Box.new w #[.slice ap np cp, .int .i64 ar, .int .i64 ce, .slice ab nb cb] 30).alloc _))
  have B2 : Hid (Box ((w.alloc (.cells #[.slice ap np cp, .int .i64 ar, .int .i64 ce, .slice ab nb cb] 30)).alloc (.cells #[.slice ap2 np2 cp2, .int .i64 ar2, .int .i64 ce2, .slice ab2 nb2 cb2] 30)) (w.heap.size + 1) #[.slice ap2 np2 cp2, .int .i64 ar2, .int .i64 ce2, .slice ab2 nb2 cb2]) := Lib.hid (by simpa using (Box.new (w.alloc (.cells #[.slice ap np cp, .int .i64 ar, .int .i64 ce, .slice ab nb cb] 30)) #[.slice ap2 np2 cp2, .int .i64 ar2, .int .i64 ce2, .slice ab2 nb2 cb2] 30))
  have HW : Hid (Below w.heap.size w ((w.alloc (.cells #[.slice ap np cp, .int .i64 ar, .int .i64 ce, .slice ab nb cb] 30)).alloc (.cells #[.slice ap2 np2 cp2, .int .i64 ar2, .int .i64 ce2, .slice ab2 nb2 cb2] 30))) := Lib.hid (((Below.refl _ _).alloc (Nat.le_refl _) _).alloc (by simp) _)
  generalize ((w.alloc (.cells #[.slice ap np cp, .int .i64 ar, .int .i64 ce, .slice ab nb cb] 30)).alloc (.cells #[.slice ap2 np2 cp2, .int .i64 ar2, .int .i64 ce2, .slice ab2 nb2 cb2] 30)) = wv at *
  obtain ⟨lB1, cB1, fB1⟩ := B1.out
  obtain ⟨lB2, cB2, fB2⟩ := B2.out
  cases h1 : (ar != ar2)
  rotate_left
  · skip
    have hqf : q = false := by rw [HQ.out]; exact decide_eq_false (fun e => (by have h9 : ar ≠ ar2 := (by simpa using h1); exact h9 (by rw [HAR.out.1, HAR.out.2, e])))
    subst hqf
    go_wp2
    go_ret
    exact ⟨rfl, HW.out⟩
  cases h2 : (ce != ce2)
  rotate_left
  · skip
    have hqf : q = false := by rw [HQ.out]; exact decide_eq_false (fun e => (by have h9 : ce ≠ ce2 := (by simpa using h2); exact h9 (by rw [HCE.out.1, HCE.out.2, e])))
    subst hqf
    go_wp2
    go_ret
    exact ⟨rfl, HW.out⟩
  go_wp2_with fail
  refine (sameB (HP.out.below HW.out) (HP2.out.below HW.out)).mono ?_
  rintro e w2 ⟨rfl, hb⟩
  obtain ⟨c, hc⟩ : ∃ c, c = decide (x.params = y.params) := ⟨_, rfl⟩
  rw [← hc]
  have HC := Lib.hid hc
  clear hc
  clear lB1 cB1 fB1 lB2 cB2 fB2
  replace B1 := Lib.hid (B1.out.later hb)
  replace B2 := Lib.hid (B2.out.later hb)
  replace HW := Lib.hid (HW.out.trans (hb.mono HW.out.size))
  clear hb
  obtain ⟨lB1, cB1, fB1⟩ := B1.out
  obtain ⟨lB2, cB2, fB2⟩ := B2.out
  cases c
  · skip
    have hqf : q = false := by rw [HQ.out]; exact decide_eq_false (fun e => (by have h9 := HC.out; simp [e] at h9))
    subst hqf
    go_wp2
    go_ret
    exact ⟨rfl, HW.out⟩
  cases h3 : ((nb : Int) != (nb2 : Int))
  rotate_left
  · skip
    have hqf : q = false := by rw [HQ.out]; exact decide_eq_false (fun e => (by have h9 : nb ≠ nb2 := (by simp at h3; omega); exact h9 (by rw [HNB.out, HNB2.out, e])))
    subst hqf
    go_wp2
    go_ret
    exact ⟨rfl, HW.out⟩
  have HEQ : Hid (x.params = y.params ∧ x.arrays = y.arrays ∧ x.cells = y.cells) := Lib.hid ⟨by simpa using HC.out.symm, by rw [← HAR.out.1, ← HAR.out.2]; simpa using h1, by rw [← HCE.out.1, ← HCE.out.2]; simpa using h2⟩
  obtain rfl : nb = nb2 := by simp at h3; omega
  clear HC HAR HCE HP HP2
  go_wp2_with fail
  clear h1 h2 h3
  go_loopw [5] (fun i wr => ∃ k : Nat, k ≤ nb ∧ i = .int .i64 k ∧ Below w.heap.size w wr ∧ Box wr w.heap.size #[.slice ap np cp, .int .i64 ar, .int .i64 ce, .slice ab nb cb] ∧ Box wr (w.heap.size + 1) #[.slice ap2 np2 cp2, .int .i64 ar2, .int .i64 ce2, .slice ab2 nb cb2] ∧ ∀ j, j < k → x.blocks[j]? = y.blocks[j]?) (fun i _ => nb - (intOf i).toNat)
  case atStart => exact ⟨0, Nat.zero_le _, rfl, HW.out, B1.out, B2.out, fun j h => absurd h (Nat.not_lt_zero _)⟩
  case round =>
    obtain ⟨k, hk, rfl, hW, hb1, hb2, hs⟩ := hrel
    clear lB1 cB1 fB1 lB2 cB2 fB2
    replace HW := Lib.hid hW
    replace B1 := Lib.hid hb1
    replace B2 := Lib.hid hb2
    have HS := Lib.hid hs
    clear hW hb1 hb2 hs

    obtain ⟨lB1, cB1, fB1⟩ := B1.out
    obtain ⟨lB2, cB2, fB2⟩ := B2.out
    by_cases hlt : k < nb
    · obtain ⟨rfl, hbp⟩ := HBA.out (by omega)
      obtain ⟨rfl, hbp2⟩ := HBA2.out (by omega)


      obtain ⟨p, hpk⟩ : ∃ p, x.blocks[k]? = some p := ⟨_, List.getElem?_eq_getElem (by have := HNB.out; omega)⟩
      obtain ⟨r, hrk⟩ : ∃ r, y.blocks[k]? = some r := ⟨_, List.getElem?_eq_getElem (by have := HNB2.out; omega)⟩
      obtain ⟨p1, p2, p3, q1, q2, q3, hP⟩ := HBX.out k p hpk
      obtain ⟨r1, r2, r3, s1, s2, s3, hR⟩ := HBX2.out k r hrk
      have HPK := Lib.hid hpk
      have HRK := Lib.hid hrk
      have HPP := Lib.hid hP
      have HRR := Lib.hid hR
      obtain ⟨c, hc⟩ : ∃ c, c = decide (p = r) := ⟨_, rfl⟩
      have HC := Lib.hid hc
      have HCT : Hid (∀ w4, Below wr.heap.size wr w4 → Calls Try.prog 79 #[.agg #[.slice p1 p.phis.length q1, .slice p2 p.code.length q2, .int .i64 p.term.op, .int .i64 p.term.val, .slice p3 p.term.to.length q3, .int .i64 p.term.n], .agg #[.slice r1 r.phis.length s1, .slice r2 r.code.length s2, .int .i64 r.term.op, .int .i64 r.term.val, .slice r3 r.term.to.length s3, .int .i64 r.term.n]] w4 fun e w' => e = .returned (.bool c) ∧ Below w4.heap.size w4 w') := Lib.hid (fun w4 hb => by
        rw [hc]
        exact refSameBlock ((HPP.out.blockV.below HW.out).below hb) ((HRR.out.blockV.below HW.out).below hb))
      have HNE : Hid (p ≠ r → q = false) := Lib.hid (fun h => by rw [HQ.out]; exact decide_eq_false (fun e => h (by have h9 := HPK.out; rw [e, HRK.out] at h9; cases h9; rfl)))
      clear hpk hrk hP hR hc
      go_upto_region 6 with (fail)
      refine wp_region_grow 12 (fun kz => match kz with | 10 => .const (.bool c) | _ => .plain) (by kernel_rfl) (by kernel_rfl) ?_ (fun ν => ?_)
      · (intro k; (try dsimp only); split <;> first | exact True.intro | (intro u w1 w2 hu hb; exact hu.below hb))
      simp only [List.take_succ_cons, List.take_zero, List.drop_succ_cons, List.drop_zero]
      iterate 4 (refine Grow.val (v := ?_) rfl rfl (fun wg hbg hdg => ?_) ?_; rotate_left; (focus ((obtain ⟨lg0, cg0, fg0⟩ := B1.out.later hbg); (obtain ⟨lg1, cg1, fg1⟩ := B2.out.later hbg); clear hbg hdg; first | (go_simp; done) | (go_simp; with_reducible rfl))); simp only [Act.put, List.setIfInBounds_toArray, List.set_cons_zero, List.set_cons_succ])
      refine Grow.val (v := ?_) rfl rfl (fun wg hbg hdg => ?_) ?_
      rotate_left
      focus ((obtain ⟨lg0, cg0, fg0⟩ := B1.out.later hbg); (obtain ⟨lg1, cg1, fg1⟩ := B2.out.later hbg); (obtain ⟨m0, m1, m2, m3, m4, m5, -, -, -, -, -, -⟩ := HPP.out.below (HW.out.trans (hbg.mono HW.out.size)) hbp); clear hbg hdg; first | (go_simp; done) | (go_simp; with_reducible rfl))
      simp only [Act.put, List.setIfInBounds_toArray, List.set_cons_zero, List.set_cons_succ]
      iterate 4 (refine Grow.val (v := ?_) rfl rfl (fun wg hbg hdg => ?_) ?_; rotate_left; (focus ((obtain ⟨lg0, cg0, fg0⟩ := B1.out.later hbg); (obtain ⟨lg1, cg1, fg1⟩ := B2.out.later hbg); clear hbg hdg; first | (go_simp; done) | (go_simp; with_reducible rfl))); simp only [Act.put, List.setIfInBounds_toArray, List.set_cons_zero, List.set_cons_succ])
      refine Grow.val (v := ?_) rfl rfl (fun wg hbg hdg => ?_) ?_
      rotate_left
      focus ((obtain ⟨lg0, cg0, fg0⟩ := B1.out.later hbg); (obtain ⟨lg1, cg1, fg1⟩ := B2.out.later hbg); (obtain ⟨m0, m1, m2, m3, m4, m5, -, -, -, -, -, -⟩ := HRR.out.below (HW.out.trans (hbg.mono HW.out.size)) hbp2); clear hbg hdg; first | (go_simp; done) | (go_simp; with_reducible rfl))
      simp only [Act.put, List.setIfInBounds_toArray, List.set_cons_zero, List.set_cons_succ]
      refine Grow.call (f := ?_) (args := ?_) rfl (fun wg => ?_) (fun wg hbg hdg => ?_) ?_
      rotate_left 2
      focus (first | (go_simp; done) | (go_simp; refine And.intro ?_ ?_ <;> with_reducible rfl) | (go_simp; with_reducible rfl))
      focus exact Calls.mono (HCT.out wg hbg) (fun e w2 ⟨he, hb2⟩ => ⟨_, he, rfl, hb2⟩)
      simp only [Act.put, Known.val, List.setIfInBounds_toArray, List.set_cons_zero, List.set_cons_succ]
      refine Grow.val (v := ?_) rfl rfl (fun wg hbg hdg => ?_) ?_
      rotate_left
      focus ((obtain ⟨lg0, cg0, fg0⟩ := B1.out.later hbg); (obtain ⟨lg1, cg1, fg1⟩ := B2.out.later hbg); clear hbg hdg; first | (go_simp; done) | (go_simp; with_reducible rfl))
      simp only [Act.put, List.setIfInBounds_toArray, List.set_cons_zero, List.set_cons_succ]
      intro wg hb hf hap
      clear hap
      clear lB1 cB1 fB1 lB2 cB2 fB2
      replace B1 := Lib.hid (B1.out.later hb)
      replace B2 := Lib.hid (B2.out.later hb)
      replace HW := Lib.hid (HW.out.trans (hb.mono HW.out.size))
      clear hb
      obtain ⟨lB1, cB1, fB1⟩ := B1.out
      obtain ⟨lB2, cB2, fB2⟩ := B2.out
      clear hf
      cases c
      · have hqf : q = false := HNE.out (by have := HC.out; simpa using this)
        subst hqf
        go_wp2
        go_ret
        exact ⟨rfl, HW.out⟩
      · have HPR : Hid (p = r) := Lib.hid (by have := HC.out; simpa using this)
        go_wp2
        go_roundw
        case rel =>
          refine ⟨k + 1, hlt, by go_num, HW.out, B1.out, B2.out, fun j hj => ?_⟩
          by_cases e : j = k
          · subst e; rw [HPK.out, HRK.out, HPR.out]
          · exact HS.out j (by omega)
        case measure => simp [intOf]; omega
    · have hqt : q = true := by rw [HQ.out]; exact decide_eq_true (func_eq HEQ.out.1 HEQ.out.2.1 HEQ.out.2.2 (list_same HNB.out HNB2.out (fun j hj => HS.out j (by omega))))
      subst hqt
      go_wp2
      go_ret
      exact ⟨rfl, HW.out⟩
end Go.Proofs.Ytefpmjnimnmniaa
namespace Go.Proofs.Ytefpmjnimnmniaa
set_option linter.unusedSimpArgs false
set_option linter.unusedVariables false
open Go.RowKit
theorem order_simplest {O : List Nat} (h : IsOrder simplest O) : O = [0] := by
  obtain ⟨h1, -, h2, h3, -⟩ := h.facts
  have h4 := h.le
  have h5 : simplest.blocks.length = 1 := rfl
  rw [h5] at h4
  cases O with
  | nil => cases h3
  | cons a l =>
    have : l = [] := List.eq_nil_of_length_eq_zero (by rw [List.length_cons] at h4; omega)
    subst this
    simp at h3; rw [h3]
set_option maxHeartbeats 3200000 in
theorem awake3 {w : World} : Calls Try.prog 31 #[] w fun e w' => e = .returned (.bool true) ∧ Below w.heap.size w w' := by
  go_enter Try.func31, Try.ntmps31
  go_wp2_with fail
  have B0 : Hid (Box ((w.alloc (.cells #[.int .i64 1, .int .i64 0, .slice none 0 0, .int .i64 5] 84)).alloc (.cells #[.slice none 0 0, .slice (some ⟨w.heap.size, 0, none⟩) 1 1, .int .i64 3, .int .i64 0, .slice none 0 0, .int .i64 0] 57)) (w.heap.size) #[.int .i64 1, .int .i64 0, .slice none 0 0, .int .i64 5]) := Lib.hid (by simpa using ((Box.new w #[.int .i64 1, .int .i64 0, .slice none 0 0, .int .i64 5] 84).alloc _))
  have B1 : Hid (Box ((w.alloc (.cells #[.int .i64 1, .int .i64 0, .slice none 0 0, .int .i64 5] 84)).alloc (.cells #[.slice none 0 0, .slice (some ⟨w.heap.size, 0, none⟩) 1 1, .int .i64 3, .int .i64 0, .slice none 0 0, .int .i64 0] 57)) (w.heap.size + 1) #[.slice none 0 0, .slice (some ⟨w.heap.size, 0, none⟩) 1 1, .int .i64 3, .int .i64 0, .slice none 0 0, .int .i64 0]) := Lib.hid (by simpa using (Box.new (w.alloc (.cells #[.int .i64 1, .int .i64 0, .slice none 0 0, .int .i64 5] 84)) #[.slice none 0 0, .slice (some ⟨w.heap.size, 0, none⟩) 1 1, .int .i64 3, .int .i64 0, .slice none 0 0, .int .i64 0] 57))
  have HW : Hid (Below w.heap.size w ((w.alloc (.cells #[.int .i64 1, .int .i64 0, .slice none 0 0, .int .i64 5] 84)).alloc (.cells #[.slice none 0 0, .slice (some ⟨w.heap.size, 0, none⟩) 1 1, .int .i64 3, .int .i64 0, .slice none 0 0, .int .i64 0] 57))) := Lib.hid (((Below.refl _ _).alloc (Nat.le_refl _) _).alloc (by simp) _)
  generalize ((w.alloc (.cells #[.int .i64 1, .int .i64 0, .slice none 0 0, .int .i64 5] 84)).alloc (.cells #[.slice none 0 0, .slice (some ⟨w.heap.size, 0, none⟩) 1 1, .int .i64 3, .int .i64 0, .slice none 0 0, .int .i64 0] 57)) = wv at *
  obtain ⟨lB0, cB0, fB0⟩ := B0.out
  obtain ⟨lB1, cB1, fB1⟩ := B1.out
  refine (graphOrder (simplest_val B0.out B1.out)).mono ?_
  rintro e w2 ⟨ov, L, rfl, hL, h0, -, hb⟩
  obtain ⟨O, hO, rfl⟩ := h0 simplest_ok.1
  obtain rfl := order_simplest hO
  rw [simplest_ok.1]
  obtain ⟨a, c, b, o, hov, hc, hm, ha, hx⟩ := hL.parts
  have hx0 := hx 0 (by simp [natI])
  obtain ⟨rfl, hbl⟩ := ha (by simp [natI])
  subst hov
  rw [show (natI [0]).getD 0 0 = 0 from rfl, Nat.add_zero] at hx0
  rw [natI_len] at hc ⊢
  simp only [List.length_cons, List.length_nil, Nat.zero_add] at hc ⊢
  clear h0 hO hL hx ha
  clear lB0 cB0 fB0 lB1 cB1 fB1
  replace B0 := Lib.hid (B0.out.later hb)
  replace B1 := Lib.hid (B1.out.later hb)
  replace HW := Lib.hid (HW.out.trans (hb.mono HW.out.size))
  clear hb
  obtain ⟨lB0, cB0, fB0⟩ := B0.out
  obtain ⟨lB1, cB1, fB1⟩ := B1.out
  go_wp2
  go_ret
  exact ⟨rfl, HW.out⟩
end Go.Proofs.Ytefpmjnimnmniaa
namespace Go.Proofs.Ytefpmjnimnmniaa
set_option linter.unusedSimpArgs false
set_option linter.unusedVariables false
open Go.RowKit
end Go.Proofs.Ytefpmjnimnmniaa
namespace Go.Proofs.Ytefpmjnimnmniaa
set_option linter.unusedSimpArgs false
set_option linter.unusedVariables false
open Go.RowKit
end Go.Proofs.Ytefpmjnimnmniaa
namespace Go.Proofs.Ytefpmjnimnmniaa
set_option linter.unusedSimpArgs false
set_option linter.unusedVariables false
open Go.RowKit
end Go.Proofs.Ytefpmjnimnmniaa
namespace Go.Proofs.Ytefpmjnimnmniaa
set_option linter.unusedSimpArgs false
set_option linter.unusedVariables false
open Go.RowKit
theorem FuncV.later {W W' : World} {v : Value} {f : FuncD} (h : FuncV W v f) (hb : Below W.heap.size W W') : FuncV W' v f := h.below hb
theorem FuncV.alloc {W : World} {v : Value} {f : FuncD} (h : FuncV W v f) (o : Obj) : FuncV (W.alloc o) v f := h.below ((Below.refl _ _).alloc (Nat.le_refl _) o)
set_option maxHeartbeats 6400000 in
theorem walkGSplits {w : World} {v : Value} (f : FuncD) (hv : FuncV w v f) {b k : Int} (hb64 : In64 b) (hk64 : In64 k) :
    Calls Try.prog 8 #[v, .int .i64 b, .int .i64 k] w fun e w' => e = .returned (.bool true) ∧ Below w.heap.size w w' := by
  have HV := Lib.hid hv
  have H64 := Lib.hid (And.intro hb64 hk64)
  obtain ⟨ap, cp, ab, cb, rfl, -, -, -, -⟩ := hv.form
  clear hv hb64 hk64
  go_enter Try.func8, Try.ntmps8
  go_upto_region 1 with (fail)
  have B1 : Hid (Box (w.alloc (.cells #[.slice ap f.params.length cp, .int .i64 f.arrays, .int .i64 f.cells, .slice ab f.blocks.length cb] 30)) (w.heap.size) #[.slice ap f.params.length cp, .int .i64 f.arrays, .int .i64 f.cells, .slice ab f.blocks.length cb]) := Lib.hid (by simpa using (Box.new w #[.slice ap f.params.length cp, .int .i64 f.arrays, .int .i64 f.cells, .slice ab f.blocks.length cb] 30))
  have HW : Hid (Below w.heap.size w (w.alloc (.cells #[.slice ap f.params.length cp, .int .i64 f.arrays, .int .i64 f.cells, .slice ab f.blocks.length cb] 30))) := Lib.hid ((Below.refl _ _).alloc (Nat.le_refl _) _)
  generalize (w.alloc (.cells #[.slice ap f.params.length cp, .int .i64 f.arrays, .int .i64 f.cells, .slice ab f.blocks.length cb] 30)) = wv at *
  obtain ⟨lB1, cB1, fB1⟩ := B1.out
  go_wp2_with fail
  refine (graphSplit (HV.out.below HW.out) H64.out.1 H64.out.2).mono ?_
  rintro e w2 ⟨va, S, rfl, hO, -, hb⟩
  obtain ⟨fa, hfa⟩ : ∃ fa, fa = splitF f b k := ⟨_, rfl⟩
  rw [← hfa] at hO ⊢
  have HFA := Lib.hid hfa
  have HA := Lib.hid hO.reads
  obtain ⟨ap2, cp2, ab2, cb2, rfl, -, -, -, -⟩ := hO.reads.form
  clear hO hfa
  obtain ⟨ea, hea⟩ : ∃ ea, ea = fa.2 := ⟨_, rfl⟩
  rw [← hea]
  have HEA := Lib.hid hea
  clear hea
  clear lB1 cB1 fB1
  replace B1 := Lib.hid (B1.out.later hb)
  replace HW := Lib.hid (HW.out.trans (hb.mono HW.out.size))
  clear hb
  obtain ⟨lB1, cB1, fB1⟩ := B1.out

  go_upto_region 2 with (fail)
  have nB2B1 : w2.heap.size ≠ w.heap.size := fun e => by have := lB1; omega
  have nB1B2 : w.heap.size ≠ w2.heap.size := fun e => nB2B1 e.symm
  have B1_ : Box (w2.alloc (.cells #[.slice ap2 fa.1.params.length cp2, .int .i64 fa.1.arrays, .int .i64 fa.1.cells, .slice ab2 fa.1.blocks.length cb2] 30)) (w.heap.size) #[.slice ap f.params.length cp, .int .i64 f.arrays, .int .i64 f.cells, .slice ab f.blocks.length cb] := by simpa using (B1.out.alloc _)
  have B2_ : Box (w2.alloc (.cells #[.slice ap2 fa.1.params.length cp2, .int .i64 fa.1.arrays, .int .i64 fa.1.cells, .slice ab2 fa.1.blocks.length cb2] 30)) (w2.heap.size) #[.slice ap2 fa.1.params.length cp2, .int .i64 fa.1.arrays, .int .i64 fa.1.cells, .slice ab2 fa.1.blocks.length cb2] := by simpa using (Box.new w2 #[.slice ap2 fa.1.params.length cp2, .int .i64 fa.1.arrays, .int .i64 fa.1.cells, .slice ab2 fa.1.blocks.length cb2] 30)
  have HA_ := (HA.out.alloc (.cells #[.slice ap2 fa.1.params.length cp2, .int .i64 fa.1.arrays, .int .i64 fa.1.cells, .slice ab2 fa.1.blocks.length cb2] 30))
  have HW_ : Below w.heap.size w (w2.alloc (.cells #[.slice ap2 fa.1.params.length cp2, .int .i64 fa.1.arrays, .int .i64 fa.1.cells, .slice ab2 fa.1.blocks.length cb2] 30)) := (HW.out.alloc (by first | exact Nat.le_refl _ | exact HW.out.size | (simp only [World.size_alloc, World.size_setCell]; have := HW.out.size; omega)) _)
  clear lB1 cB1 fB1
  clear B1 HA HW
  generalize (w2.alloc (.cells #[.slice ap2 fa.1.params.length cp2, .int .i64 fa.1.arrays, .int .i64 fa.1.cells, .slice ab2 fa.1.blocks.length cb2] 30)) = w3 at *
  have B1 := Lib.hid B1_
  clear B1_
  have B2 := Lib.hid B2_
  clear B2_
  have HA := Lib.hid HA_
  clear HA_
  have HW := Lib.hid HW_
  clear HW_
  obtain ⟨lB1, cB1, fB1⟩ := B1.out
  obtain ⟨lB2, cB2, fB2⟩ := B2.out
  go_wp2_with fail
  refine (refSplit (HV.out.below HW.out) H64.out.1 H64.out.2).mono ?_
  rintro e w4 ⟨vb, S2, rfl, hO, -, hb⟩
  rw [← HFA.out] at hO ⊢
  have HB := Lib.hid hO.reads
  obtain ⟨ap3, cp3, ab3, cb3, rfl, -, -, -, -⟩ := hO.reads.form
  clear hO
  rw [← HEA.out]
  clear lB1 cB1 fB1 lB2 cB2 fB2
  replace B1 := Lib.hid (B1.out.later hb)
  replace B2 := Lib.hid (B2.out.later hb)
  replace HA := Lib.hid (HA.out.later hb)
  replace HW := Lib.hid (HW.out.trans (hb.mono HW.out.size))
  clear hb
  obtain ⟨lB1, cB1, fB1⟩ := B1.out
  obtain ⟨lB2, cB2, fB2⟩ := B2.out

  go_upto_region 3 with (fail)
  have nB3B1 : w4.heap.size ≠ w.heap.size := fun e => by have := lB1; omega
  have nB1B3 : w.heap.size ≠ w4.heap.size := fun e => nB3B1 e.symm
  have nB3B2 : w4.heap.size ≠ w2.heap.size := fun e => by have := lB2; omega
  have nB2B3 : w2.heap.size ≠ w4.heap.size := fun e => nB3B2 e.symm
  have B1_ : Box (w4.alloc (.cells #[.slice ap3 fa.1.params.length cp3, .int .i64 fa.1.arrays, .int .i64 fa.1.cells, .slice ab3 fa.1.blocks.length cb3] 30)) (w.heap.size) #[.slice ap f.params.length cp, .int .i64 f.arrays, .int .i64 f.cells, .slice ab f.blocks.length cb] := by simpa using (B1.out.alloc _)
  have B2_ : Box (w4.alloc (.cells #[.slice ap3 fa.1.params.length cp3, .int .i64 fa.1.arrays, .int .i64 fa.1.cells, .slice ab3 fa.1.blocks.length cb3] 30)) (w2.heap.size) #[.slice ap2 fa.1.params.length cp2, .int .i64 fa.1.arrays, .int .i64 fa.1.cells, .slice ab2 fa.1.blocks.length cb2] := by simpa using (B2.out.alloc _)
  have B3_ : Box (w4.alloc (.cells #[.slice ap3 fa.1.params.length cp3, .int .i64 fa.1.arrays, .int .i64 fa.1.cells, .slice ab3 fa.1.blocks.length cb3] 30)) (w4.heap.size) #[.slice ap3 fa.1.params.length cp3, .int .i64 fa.1.arrays, .int .i64 fa.1.cells, .slice ab3 fa.1.blocks.length cb3] := by simpa using (Box.new w4 #[.slice ap3 fa.1.params.length cp3, .int .i64 fa.1.arrays, .int .i64 fa.1.cells, .slice ab3 fa.1.blocks.length cb3] 30)
  have HA_ := (HA.out.alloc (.cells #[.slice ap3 fa.1.params.length cp3, .int .i64 fa.1.arrays, .int .i64 fa.1.cells, .slice ab3 fa.1.blocks.length cb3] 30))
  have HB_ := (HB.out.alloc (.cells #[.slice ap3 fa.1.params.length cp3, .int .i64 fa.1.arrays, .int .i64 fa.1.cells, .slice ab3 fa.1.blocks.length cb3] 30))
  have HW_ : Below w.heap.size w (w4.alloc (.cells #[.slice ap3 fa.1.params.length cp3, .int .i64 fa.1.arrays, .int .i64 fa.1.cells, .slice ab3 fa.1.blocks.length cb3] 30)) := (HW.out.alloc (by first | exact Nat.le_refl _ | exact HW.out.size | (simp only [World.size_alloc, World.size_setCell]; have := HW.out.size; omega)) _)
  clear lB1 cB1 fB1 lB2 cB2 fB2
  clear B1 B2 HA HB HW
  generalize (w4.alloc (.cells #[.slice ap3 fa.1.params.length cp3, .int .i64 fa.1.arrays, .int .i64 fa.1.cells, .slice ab3 fa.1.blocks.length cb3] 30)) = w5 at *
  have B1 := Lib.hid B1_
  clear B1_
  have B2 := Lib.hid B2_
  clear B2_
  have B3 := Lib.hid B3_
  clear B3_
  have HA := Lib.hid HA_
  clear HA_
  have HB := Lib.hid HB_
  clear HB_
  have HW := Lib.hid HW_
  clear HW_
  obtain ⟨lB1, cB1, fB1⟩ := B1.out
  obtain ⟨lB2, cB2, fB2⟩ := B2.out
  obtain ⟨lB3, cB3, fB3⟩ := B3.out
  go_wp2_with fail
  refine awake3.mono ?_
  rintro e w6 ⟨rfl, hb⟩
  clear lB1 cB1 fB1 lB2 cB2 fB2 lB3 cB3 fB3
  replace B1 := Lib.hid (B1.out.later hb)
  replace B2 := Lib.hid (B2.out.later hb)
  replace B3 := Lib.hid (B3.out.later hb)
  replace HA := Lib.hid (HA.out.later hb)
  replace HB := Lib.hid (HB.out.later hb)
  replace HW := Lib.hid (HW.out.trans (hb.mono HW.out.size))
  clear hb
  obtain ⟨lB1, cB1, fB1⟩ := B1.out
  obtain ⟨lB2, cB2, fB2⟩ := B2.out
  obtain ⟨lB3, cB3, fB3⟩ := B3.out
  have hee : (ea == ea) = true := by simp
  go_wp2_with fail
  refine (refSame HA.out HB.out).mono ?_
  rintro e w7 ⟨rfl, hb⟩
  rw [show decide (fa.1 = fa.1) = true by simp]
  clear lB1 cB1 fB1 lB2 cB2 fB2 lB3 cB3 fB3
  replace B1 := Lib.hid (B1.out.later hb)
  replace B2 := Lib.hid (B2.out.later hb)
  replace B3 := Lib.hid (B3.out.later hb)
  replace HA := Lib.hid (HA.out.later hb)
  replace HB := Lib.hid (HB.out.later hb)
  replace HW := Lib.hid (HW.out.trans (hb.mono HW.out.size))
  clear hb
  obtain ⟨lB1, cB1, fB1⟩ := B1.out
  obtain ⟨lB2, cB2, fB2⟩ := B2.out
  obtain ⟨lB3, cB3, fB3⟩ := B3.out
  go_wp2
  go_ret
  exact ⟨rfl, HW.out⟩
end Go.Proofs.Ytefpmjnimnmniaa
