/- dom.Dominates; the law's 'awake'. -/
import Derived.Test.YtefpmjnimnmniaaDom3
namespace Go.Proofs.Ytefpmjnimnmniaa
set_option linter.unusedSimpArgs false
set_option linter.unusedVariables false
open Go.RowKit

def InR (f : FuncD) (a b : Int) : Prop := 0 ≤ a ∧ 0 ≤ b ∧ a < (f.blocks.length : Int) ∧ b < (f.blocks.length : Int)
def DDomR (f : FuncD) (a b : Int) (w : World) (e : Ending) (w' : World) : Prop :=
  ∃ (r : Bool) (g : Int), e = .returned (.tuple #[.bool r, .int .i64 g]) ∧ (checkF f ≠ 0 → r = false ∧ g = checkF f) ∧ (checkF f = 0 → ¬ InR f a b → r = false ∧ g = 9) ∧ (checkF f = 0 → InR f a b → g = 0 ∧ (r = true ↔ OverP f a.toNat b.toNat)) ∧ Below w.heap.size w w'
set_option maxHeartbeats 6400000 in
theorem domDominates {w : World} {v : Value} {f : FuncD} (hv : FuncV w v f) {a b : Int} : Calls Try.prog 37 #[v, .int .i64 a, .int .i64 b] w (DDomR f a b w) := by
  have HV := Lib.hid hv
  obtain ⟨ap, cp, ab, cb, rfl, hp, ha, hc, hB⟩ := hv.form
  have hbig : checkF f = 0 → f.blocks.length ≤ 512 := fun h => (formB_nb (check_fine h).1).2
  have HBG := Lib.hid hbig
  obtain ⟨nb, hnb⟩ : ∃ nb, nb = f.blocks.length := ⟨_, rfl⟩
  rw [← hnb] at HV ⊢
  have HNB := Lib.hid hnb
  clear hp ha hc hB hv hbig hnb
  rcases Int.lt_trichotomy a b with hab | hab | hab
  all_goals
    try (have hba : ¬ b < a := by omega)
    try (have hba2 : ¬ a < b := by omega)
    have HAB := Lib.hid hab
    try (have hba3 : a < b := by omega)
    try (have hba4 : b < a := by omega)
    clear hab
    go_enter Try.func37, Try.ntmps37
    go_upto_region 1 with (fail)
    have B1 : Hid (Box (w.alloc (.cells #[.slice ap f.params.length cp, .int .i64 f.arrays, .int .i64 f.cells, .slice ab nb cb] 30)) (w.heap.size) #[.slice ap f.params.length cp, .int .i64 f.arrays, .int .i64 f.cells, .slice ab nb cb]) := Lib.hid (by simpa using (Box.new w #[.slice ap f.params.length cp, .int .i64 f.arrays, .int .i64 f.cells, .slice ab nb cb] 30))
    have HW : Hid (Below w.heap.size w (w.alloc (.cells #[.slice ap f.params.length cp, .int .i64 f.arrays, .int .i64 f.cells, .slice ab nb cb] 30))) := Lib.hid ((Below.refl _ _).alloc (Nat.le_refl _) _)
    generalize (w.alloc (.cells #[.slice ap f.params.length cp, .int .i64 f.arrays, .int .i64 f.cells, .slice ab nb cb] 30)) = wv at *
    obtain ⟨lB1, cB1, fB1⟩ := B1.out
    go_wp2_with fail
    refine (domOpen (HV.out.below HW.out)).mono ?_
    rintro e w2 ⟨hb, ⟨hc0, rfl⟩ | ⟨hc0, bt, bg, lg, lcap, g, pv, ov, lv, O, I, rfl, hvg, hO, hT, hD⟩⟩
    · have hc1 : (checkF f != 0) = true := by simpa using hc0
      have HC0 := Lib.hid hc0
      clear hc0
      clear lB1 cB1 fB1
      replace B1 := Lib.hid (B1.out.later hb)
      replace HW := Lib.hid (HW.out.trans (hb.mono HW.out.size))
      clear hb
      obtain ⟨lB1, cB1, fB1⟩ := B1.out
      go_wp2
      go_ret2
      exact ⟨false, checkF f, rfl, (fun _ => ⟨rfl, rfl⟩), (fun h => absurd h HC0.out), (fun h => absurd h HC0.out), HW.out⟩
    · have HC0 := Lib.hid hc0
      have HT := Lib.hid hT
      have HO := Lib.hid hO
      have HD := Lib.hid hD
      have hbg := HBG.out hc0
      rw [← HNB.out] at hbg
      have HB5 := Lib.hid hbg
      clear hc0 hvg hO hT hD hbg
      clear lB1 cB1 fB1
      replace B1 := Lib.hid (B1.out.later hb)
      replace HW := Lib.hid (HW.out.trans (hb.mono HW.out.size))
      clear hb
      obtain ⟨lB1, cB1, fB1⟩ := B1.out
      have hn0 : (0 : Int) ≤ (nb : Int) := by omega
      by_cases hr : 0 ≤ a ∧ 0 ≤ b ∧ a < (nb : Int) ∧ b < (nb : Int)
      · obtain ⟨r1, r2, r3, r4⟩ := hr
        have HIN : Hid (InR f a b) := Lib.hid ⟨r1, r2, by rw [← HNB.out]; exact r3, by rw [← HNB.out]; exact r4⟩
        have g1 : ¬ a < 0 := by omega
        have g2 : ¬ b < 0 := by omega
        have g3 : ¬ (nb : Int) ≤ a := by omega
        have g4 : ¬ (nb : Int) ≤ b := by omega
        have HOV : Hid (∀ W, TreeM f W bt bg lg lcap g pv ov lv O I → Calls Try.prog 73 #[.pointer (some ⟨bt, 0, none⟩), .int .i64 a, .int .i64 b] W fun e w' => ∃ r : Bool, e = .returned (.bool r) ∧ (r = true ↔ OverP f a.toNat b.toNat) ∧ W = w') := Lib.hid (fun W hW => by
          have h9 := treeOver (a := a.toNat) (b := b.toNat) hW HO.out HD.out (by rw [← HNB.out]; exact HB5.out) (by rw [← HNB.out]; omega) (by rw [← HNB.out]; omega)
          rw [Int.toNat_of_nonneg r1, Int.toNat_of_nonneg r2] at h9
          exact h9)
        go_wp2_with fail
        refine (HOV.out _ HT.out).mono ?_
        rintro e w3 ⟨r, rfl, hr, rfl⟩
        have HR := Lib.hid hr
        clear hr
        go_wp2
        go_ret2
        exact ⟨r, 0, rfl, (fun h => absurd HC0.out h), (fun _ h => absurd HIN.out h), (fun _ _ => ⟨rfl, HR.out⟩), HW.out⟩
      · have HNR : Hid (¬ InR f a b) := Lib.hid (fun h => hr ⟨h.1, h.2.1, by rw [HNB.out]; exact h.2.2.1, by rw [HNB.out]; exact h.2.2.2⟩)
        clear hr
        by_cases g1 : a < 0 <;> by_cases g2 : b < 0 <;> by_cases g3 : (nb : Int) ≤ a <;> by_cases g4 : (nb : Int) ≤ b
        all_goals
          try (exfalso; have h8 := HAB.out; have h9 := HNR.out; unfold InR at h9; have h7 := HNB.out; omega)
        all_goals
          go_wp2
          go_ret2
          exact ⟨false, 9, rfl, (fun h => absurd HC0.out h), (fun _ _ => ⟨rfl, rfl⟩), (fun _ h => absurd h HNR.out), HW.out⟩
theorem idom_simplest {D : List Int} (h : IsIdom simplest D) : D = [-1] := by
  obtain ⟨O, I, hO, hD, rfl⟩ := h
  have h0 := hD.tree.root
  show encI 1 I = [-1]
  unfold encI
  simp [h0]
theorem over_simplest : OverP simplest 0 0 := ⟨.zero (by decide), .zero (by decide), fun h => h.ne rfl⟩
set_option maxHeartbeats 6400000 in
theorem awake4 {w : World} : Calls Try.prog 38 #[] w fun e w' => e = .returned (.bool true) ∧ Below w.heap.size w w' := by
  go_enter Try.func38, Try.ntmps38
  go_wp2_with fail
  have B0 : Hid (Box ((w.alloc (.cells #[.int .i64 1, .int .i64 0, .slice none 0 0, .int .i64 5] 84)).alloc (.cells #[.slice none 0 0, .slice (some ⟨w.heap.size, 0, none⟩) 1 1, .int .i64 3, .int .i64 0, .slice none 0 0, .int .i64 0] 57)) (w.heap.size) #[.int .i64 1, .int .i64 0, .slice none 0 0, .int .i64 5]) := Lib.hid (by simpa using ((Box.new w #[.int .i64 1, .int .i64 0, .slice none 0 0, .int .i64 5] 84).alloc _))
  have B1 : Hid (Box ((w.alloc (.cells #[.int .i64 1, .int .i64 0, .slice none 0 0, .int .i64 5] 84)).alloc (.cells #[.slice none 0 0, .slice (some ⟨w.heap.size, 0, none⟩) 1 1, .int .i64 3, .int .i64 0, .slice none 0 0, .int .i64 0] 57)) (w.heap.size + 1) #[.slice none 0 0, .slice (some ⟨w.heap.size, 0, none⟩) 1 1, .int .i64 3, .int .i64 0, .slice none 0 0, .int .i64 0]) := Lib.hid (by simpa using (Box.new (w.alloc (.cells #[.int .i64 1, .int .i64 0, .slice none 0 0, .int .i64 5] 84)) #[.slice none 0 0, .slice (some ⟨w.heap.size, 0, none⟩) 1 1, .int .i64 3, .int .i64 0, .slice none 0 0, .int .i64 0] 57))
  have HW : Hid (Below w.heap.size w ((w.alloc (.cells #[.int .i64 1, .int .i64 0, .slice none 0 0, .int .i64 5] 84)).alloc (.cells #[.slice none 0 0, .slice (some ⟨w.heap.size, 0, none⟩) 1 1, .int .i64 3, .int .i64 0, .slice none 0 0, .int .i64 0] 57))) := Lib.hid (((Below.refl _ _).alloc (Nat.le_refl _) _).alloc (by simp) _)
  generalize ((w.alloc (.cells #[.int .i64 1, .int .i64 0, .slice none 0 0, .int .i64 5] 84)).alloc (.cells #[.slice none 0 0, .slice (some ⟨w.heap.size, 0, none⟩) 1 1, .int .i64 3, .int .i64 0, .slice none 0 0, .int .i64 0] 57)) = wv at *
  obtain ⟨lB0, cB0, fB0⟩ := B0.out
  obtain ⟨lB1, cB1, fB1⟩ := B1.out
  refine (domIdoms (simplest_val B0.out B1.out)).mono ?_
  rintro e w2 ⟨dv, D, rfl, hI, hD, -, hb⟩
  obtain rfl := idom_simplest (hD simplest_ok.1)
  rw [simplest_ok.1]
  obtain ⟨a, c, b, o, hdv, hc, hm, ha, hx⟩ := hI.parts
  have hx0 := hx 0 (by simp)
  obtain ⟨rfl, hbl⟩ := ha (by simp)
  subst hdv
  rw [show ([-1] : List Int).getD 0 0 = -1 from rfl, Nat.add_zero] at hx0
  simp only [List.length_cons, List.length_nil, Nat.zero_add] at hc ⊢
  clear hD hI hx ha
  clear lB0 cB0 fB0 lB1 cB1 fB1
  replace B0 := Lib.hid (B0.out.later hb)
  replace B1 := Lib.hid (B1.out.later hb)
  replace HW := Lib.hid (HW.out.trans (hb.mono HW.out.size))
  clear hb
  obtain ⟨lB0, cB0, fB0⟩ := B0.out
  obtain ⟨lB1, cB1, fB1⟩ := B1.out
  clear lB0 cB0 fB0 lB1 cB1 fB1
  have HX0 := Lib.hid hx0
  clear hx0
  go_wp2_with fail
  have hbA1 := (Below.refl w2.heap.size w2).alloc (Nat.le_refl _) (.cells #[.int .i64 1, .int .i64 0, .slice none 0 0, .int .i64 5] 84)
  have hbA := hbA1.trans (((Below.refl _ _).alloc (Nat.le_refl _) (.cells #[.slice none 0 0, .slice (some ⟨w2.heap.size, 0, none⟩) 1 1, .int .i64 3, .int .i64 0, .slice none 0 0, .int .i64 0] 57)).mono hbA1.size)
  have HV2 := simplest_val ((Box.new w2 #[.int .i64 1, .int .i64 0, .slice none 0 0, .int .i64 5] 84).alloc (.cells #[.slice none 0 0, .slice (some ⟨w2.heap.size, 0, none⟩) 1 1, .int .i64 3, .int .i64 0, .slice none 0 0, .int .i64 0] 57)) (Box.new _ _ _)
  simp only [World.size_alloc] at HV2
  refine (domDominates (a := 0) (b := 0) HV2).mono ?_
  rintro e w3 ⟨r, g, rfl, -, -, hr, hb⟩
  obtain ⟨rfl, hr2⟩ := hr simplest_ok.1 ⟨by decide, by decide, by decide, by decide⟩
  obtain rfl := hr2.2 over_simplest
  have hb2 := hbA.trans (hb.mono hbA.size)
  have hc0 := (hb2.cell (p := ⟨b, o, none⟩) hbl).trans HX0.out
  replace HW := Lib.hid (HW.out.trans (hb2.mono HW.out.size))
  clear hr hr2 hb hbA hbA1 HV2 hb2
  go_wp2
  go_ret
  exact ⟨rfl, HW.out⟩
end Go.Proofs.Ytefpmjnimnmniaa
