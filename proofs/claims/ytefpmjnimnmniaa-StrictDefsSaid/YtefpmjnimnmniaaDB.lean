/- dom.Open, Over, Idoms, Dominates; the law's 'awake'. dom.Dominates; the law's 'awake'. dom.Meet. -/
import Derived.Test.YtefpmjnimnmniaaDA
namespace Go.Proofs.Ytefpmjnimnmniaa
set_option linter.unusedSimpArgs false
set_option linter.unusedVariables false
section
open Go.RowKit

/-- a dominates b. -/
def OverP (f : FuncD) (a b : Nat) : Prop := Way (toB f) (-1) a ∧ Way (toB f) (-1) b ∧ ¬ Way (toB f) (a : Int) b
def DOpenR (f : FuncD) (v : Value) (w : World) (e : Ending) (w' : World) : Prop :=
  Below w.heap.size w w' ∧ ((checkF f ≠ 0 ∧ e = .returned (.tuple #[.pointer none, .int .i64 (checkF f)])) ∨
    (checkF f = 0 ∧ ∃ (bt bg lg lcap : Nat) (g : Array Value) (pv ov lv : Value) (O : List Nat) (I : Nat → Option Nat), e = .returned (.tuple #[.pointer (some ⟨bt, 0, none⟩), .int .i64 0]) ∧ v = .agg g ∧ IsOrder f O ∧ TreeM f w' bt bg lg lcap g pv ov lv O I ∧ DomI f O I))
set_option maxHeartbeats 3200000 in
theorem domOpen {w : World} {v : Value} {f : FuncD} (hv : FuncV w v f) : Calls Try.prog 72 #[v] w (DOpenR f v w) := by
  have HV := Lib.hid hv
  obtain ⟨ap, cp, ab, cb, rfl, hp, ha, hc, hB⟩ := hv.form
  clear hp ha hc hB hv
  go_enter Try.func72, Try.ntmps72
  go_upto_region 1 with (fail)
  have B1 : Hid (Box (w.alloc (.cells #[.slice ap f.params.length cp, .int .i64 f.arrays, .int .i64 f.cells, .slice ab f.blocks.length cb] 30)) (w.heap.size) #[.slice ap f.params.length cp, .int .i64 f.arrays, .int .i64 f.cells, .slice ab f.blocks.length cb]) := Lib.hid (by simpa using (Box.new w #[.slice ap f.params.length cp, .int .i64 f.arrays, .int .i64 f.cells, .slice ab f.blocks.length cb] 30))
  have HW : Hid (Below w.heap.size w (w.alloc (.cells #[.slice ap f.params.length cp, .int .i64 f.arrays, .int .i64 f.cells, .slice ab f.blocks.length cb] 30))) := Lib.hid ((Below.refl _ _).alloc (Nat.le_refl _) _)
  generalize (w.alloc (.cells #[.slice ap f.params.length cp, .int .i64 f.arrays, .int .i64 f.cells, .slice ab f.blocks.length cb] 30)) = wv at *
  obtain ⟨lB1, cB1, fB1⟩ := B1.out
  go_wp2_with fail
  refine (graphOpen (HV.out.below HW.out)).mono ?_
  rintro e w2 ⟨hb, ⟨hc0, rfl⟩ | ⟨hc0, bg, O, rfl, hO, hG⟩⟩
  · have hc1 : (checkF f != 0) = true := by simpa using hc0
    have HC0 := Lib.hid hc0
    clear hc0
    clear lB1 cB1 fB1
    replace B1 := Lib.hid (B1.out.later hb)
    replace HW := Lib.hid (HW.out.trans (hb.mono HW.out.size))
    clear hb
    obtain ⟨lB1, cB1, fB1⟩ := B1.out
    go_wp2
    go_ret2
    exact ⟨HW.out, .inl ⟨HC0.out, rfl⟩⟩
  · have HC0 := Lib.hid hc0
    have HO := Lib.hid hO
    have HG := Lib.hid hG
    clear hc0 hO hG
    clear lB1 cB1 fB1
    replace B1 := Lib.hid (B1.out.later hb)
    replace HW := Lib.hid (HW.out.trans (hb.mono HW.out.size))
    clear hb
    obtain ⟨lB1, cB1, fB1⟩ := B1.out
    go_wp2_with fail
    refine (domNew (HV.out.below HW.out) HG.out HO.out (check_fine HC0.out).1).mono ?_
    rintro e w3 ⟨bt, lg, lcap, g, pv, ov, lv, I, rfl, hvg, hT, hD, hb⟩
    have HT := Lib.hid hT
    have HD := Lib.hid hD
    have HVG := Lib.hid hvg
    clear hT hD hvg
    clear lB1 cB1 fB1
    replace B1 := Lib.hid (B1.out.later hb)
    replace HW := Lib.hid (HW.out.trans (hb.mono HW.out.size))
    clear hb
    obtain ⟨lB1, cB1, fB1⟩ := B1.out
    go_wp2
    go_ret2
    exact ⟨HW.out, .inr ⟨HC0.out, bt, bg, lg, lcap, g, pv, ov, lv, O, I, rfl, HVG.out, HO.out, HT.out, HD.out⟩⟩
set_option maxHeartbeats 6400000 in
theorem treeOver {W : World} {f : FuncD} {bt bg lg lcap : Nat} {g : Array Value} {pv ov lv : Value} {O : List Nat} {I : Nat → Option Nat} (hT : TreeM f W bt bg lg lcap g pv ov lv O I) (hO : IsOrder f O) (hI : DomI f O I) (h512 : f.blocks.length ≤ 512)
    {a b : Nat} (ha : a < f.blocks.length) (hb : b < f.blocks.length) :
    Calls Try.prog 73 #[.pointer (some ⟨bt, 0, none⟩), .int .i64 a, .int .i64 b] W fun e w' => ∃ r : Bool, e = .returned (.bool r) ∧ (r = true ↔ OverP f a b) ∧ W = w' := by
  obtain ⟨hc0, hc1, -, -, hc6⟩ := hT.cells
  obtain ⟨pa, pc, pb, po, hpe, hpc, hpm, hpa, hpx⟩ := hT.place.parts
  rw [placeI_len] at hpe hpc hpa
  subst hpe
  obtain ⟨lc2, -, -, -, hil, hif⟩ := hT.idom.form
  obtain ⟨h1, h2, h3, h4, h5⟩ := hO.facts
  obtain ⟨nb, hnb⟩ : ∃ nb, nb = f.blocks.length := ⟨_, rfl⟩
  have hda := hpx a (by rw [placeI_len]; exact ha)
  have hdb := hpx b (by rw [placeI_len]; exact hb)
  rw [List.getD_eq_getElem?_getD, placeI_at ha, Option.getD_some] at hda
  rw [List.getD_eq_getElem?_getD, placeI_at hb, Option.getD_some] at hdb
  rw [← hnb] at hc1 hpc hpa hil h512 h3 hc6 ha hb
  obtain ⟨rfl, hpb⟩ := hpa (by omega)
  have HIL := Lib.hid hil
  have HTR := Lib.hid hI.tree
  have HPR := Lib.hid (fun (v : Nat) (h : Way (toB f) (-1) v) => hI.proc h)
  have HAN := Lib.hid (fun (c v : Nat) (h : Way (toB f) (-1) v) => hI.anc (c := c) h)
  have HO2 := Lib.hid h2
  have HO3 := Lib.hid h3
  clear hT hpx hil hif h1 h3 h4 h5 hI hO hnb hpa
  by_cases haO : a ∈ O
  · rw [if_pos haO] at hda
    have hna : decide (((O.idxOf a : Nat) : Int) < 0) = false := by simp
    by_cases hbO : b ∈ O
    · rw [if_pos hbO] at hdb
      have hnb : decide (((O.idxOf b : Nat) : Int) < 0) = false := by simp
      have HAW := Lib.hid ((h2 a).1 haO)
      have HBW := Lib.hid ((h2 b).1 hbO)
      clear h2 haO hbO
      go_enter Try.func73, Try.ntmps73
      go_wp2_with fail
      clear hda hdb hna hnb
      go_loopw [2] (fun u wr => ∃ b' : Nat, u = .int .i64 b' ∧ Way (toB f) (-1) b' ∧ (Anc I a b' ↔ Anc I a b) ∧ W = wr) (fun u _ => O.idxOf (intOf u).toNat)
      case atStart => exact ⟨b, rfl, HBW.out, Iff.rfl, rfl⟩
      case round =>
        obtain ⟨c, rfl, hcw, hci, rfl⟩ := hrel
        have HCW := Lib.hid hcw
        have HCI := Lib.hid hci
        have hcl := HO3.out c ((HO2.out c).2 hcw)
        clear hcw hci
        by_cases hca : c = a
        · have hq : ((c : Int) != (a : Int)) = false := by simp [hca]
          have hq2 : ((a : Int) == (c : Int)) = true := by simp [hca]
          have HR : Hid (OverP f a b) := Lib.hid ⟨HAW.out, HBW.out, (HAN.out a b HBW.out).1 (HCI.out.1 (by rw [hca]; exact .refl))⟩
          have HQ2 := Lib.hid hq2
          clear hca hq2
          go_wp2
          go_ret
          refine ⟨_, rfl, ?_, ?_⟩
          · first | exact ⟨fun _ => HR.out, fun _ => HQ2.out⟩ | simp [HR.out]
          · first | rfl | trivial
        · have hq : ((c : Int) != (a : Int)) = true := by simp; omega
          by_cases hc00 : c = 0
          · have hq2 : ((a : Int) == (c : Int)) = false := by simp; omega
            have HQ2 := Lib.hid hq2
            clear hq2
            have HR : Hid (¬ OverP f a b) := Lib.hid (fun h => by
              have h9 := HCI.out.2 ((HAN.out a b HBW.out).2 h.2.2)
              rw [hc00] at h9
              exact hca (by rw [hc00, HTR.out.anc_zero h9]))
            have hcn : ¬ 0 < c := by omega
            clear hca hc00
            go_wp2
            go_ret
            refine ⟨_, rfl, ?_, ?_⟩
            · first | exact ⟨fun h => absurd (HQ2.out.symm.trans h) (by simp), fun h => absurd h HR.out⟩ | simp [HR.out]
            · first | rfl | trivial
          · have hgt : 0 < c := by omega
            obtain ⟨p, hp⟩ := Option.isSome_iff_exists.1 ((HPR.out c HCW.out).resolve_left hc00)
            obtain ⟨p1, p2, p3, p4⟩ := HTR.out.par hp
            have dp := HIL.out c p (encI_some hcl hp)
            have HP2 := Lib.hid p2
            have HP3 := Lib.hid p3
            have HAP : Hid (Anc I a p ↔ Anc I a b) := Lib.hid (by
              rw [← HCI.out]
              constructor
              · exact fun h => .up hp h
              · intro h
                rcases h.parts with e | ⟨q, e, h⟩
                · exact absurd e.symm hca
                · rw [hp] at e; cases e; exact h)
            clear hca hc00 hp p1 p2 p3 p4
            go_wp2
            go_roundw
            case rel => exact ⟨p, rfl, HP2.out, HAP.out, by first | rfl | trivial⟩
            case measure =>
              have h9 := HP3.out
              simp only [intOf, Int.toNat_natCast] at h9 ⊢
              exact h9
    · rw [if_neg hbO] at hdb
      have HN : Hid (¬ OverP f a b) := Lib.hid (fun h => hbO ((h2 b).2 h.2.1))
      clear h2 haO hbO
      go_enter Try.func73, Try.ntmps73
      go_wp2
      go_ret
      exact ⟨false, rfl, by simpa using HN.out, rfl⟩
  · rw [if_neg haO] at hda
    have HN : Hid (¬ OverP f a b) := Lib.hid (fun h => haO ((h2 a).2 h.1))
    clear h2 haO
    go_enter Try.func73, Try.ntmps73
    go_wp2
    go_ret
    exact ⟨false, rfl, by simpa using HN.out, rfl⟩
/-- What dominates each block closest. -/
def IsIdom (f : FuncD) (D : List Int) : Prop := ∃ O I, IsOrder f O ∧ DomI f O I ∧ D = encI f.blocks.length I
def DIdomR (f : FuncD) (w : World) (e : Ending) (w' : World) : Prop :=
  ∃ dv D, e = .returned (.tuple #[dv, .int .i64 (checkF f)]) ∧ Ints w' dv D ∧ (checkF f = 0 → IsIdom f D) ∧ (checkF f ≠ 0 → D = []) ∧ Below w.heap.size w w'
theorem DomI.low {f : FuncD} {O : List Nat} {I : Nat → Option Nat} (hO : IsOrder f O) (h : DomI f O I) {b p : Nat} (hp : I b = some p) : p < f.blocks.length := by
  obtain ⟨h1, h2, h3, h4, h5⟩ := hO.facts
  exact h3 p ((h2 p).2 (h.tree.par hp).2.1)
set_option maxHeartbeats 3200000 in
theorem domIdoms {w : World} {v : Value} {f : FuncD} (hv : FuncV w v f) : Calls Try.prog 36 #[v] w (DIdomR f w) := by
  have HV := Lib.hid hv
  obtain ⟨ap, cp, ab, cb, rfl, hp, ha, hc, hB⟩ := hv.form
  clear hp ha hc hB hv
  go_enter Try.func36, Try.ntmps36
  go_upto_region 1 with (fail)
  have B1 : Hid (Box (w.alloc (.cells #[.slice ap f.params.length cp, .int .i64 f.arrays, .int .i64 f.cells, .slice ab f.blocks.length cb] 30)) (w.heap.size) #[.slice ap f.params.length cp, .int .i64 f.arrays, .int .i64 f.cells, .slice ab f.blocks.length cb]) := Lib.hid (by simpa using (Box.new w #[.slice ap f.params.length cp, .int .i64 f.arrays, .int .i64 f.cells, .slice ab f.blocks.length cb] 30))
  have HW : Hid (Below w.heap.size w (w.alloc (.cells #[.slice ap f.params.length cp, .int .i64 f.arrays, .int .i64 f.cells, .slice ab f.blocks.length cb] 30))) := Lib.hid ((Below.refl _ _).alloc (Nat.le_refl _) _)
  generalize (w.alloc (.cells #[.slice ap f.params.length cp, .int .i64 f.arrays, .int .i64 f.cells, .slice ab f.blocks.length cb] 30)) = wv at *
  obtain ⟨lB1, cB1, fB1⟩ := B1.out
  go_wp2_with fail
  refine (domOpen (HV.out.below HW.out)).mono ?_
  rintro e w2 ⟨hb, ⟨hc0, rfl⟩ | ⟨hc0, bt, bg, lg, lcap, g, pv, ov, lv, O, I, rfl, hvg, hO, hT, hD⟩⟩
  · have hc1 : (checkF f != 0) = true := by simpa using hc0
    have HC0 := Lib.hid hc0
    clear hc0
    clear lB1 cB1 fB1
    replace B1 := Lib.hid (B1.out.later hb)
    replace HW := Lib.hid (HW.out.trans (hb.mono HW.out.size))
    clear hb
    obtain ⟨lB1, cB1, fB1⟩ := B1.out
    go_wp2
    go_ret2
    exact ⟨_, [], rfl, ints_nil, fun h => absurd h HC0.out, fun _ => rfl, HW.out⟩
  · have HC0 := Lib.hid hc0
    have hn := formB_nb (check_fine hc0).1
    have HN : Hid (Ints w2 (.slice (some ⟨lg, 0, none⟩) f.blocks.length lcap) (encI f.blocks.length I)) := Lib.hid (hT.idom.ints (by rw [encI_len]; omega) (encI_64 fun b p hp => by have := hD.low hO hp; omega))
    have HI : Hid (IsIdom f (encI f.blocks.length I)) := Lib.hid ⟨O, I, hO, hD, rfl⟩
    obtain ⟨-, hc1, -⟩ := hT.cells
    clear hc0 hn hO hT hD hvg
    clear lB1 cB1 fB1
    replace B1 := Lib.hid (B1.out.later hb)
    replace HW := Lib.hid (HW.out.trans (hb.mono HW.out.size))
    clear hb
    obtain ⟨lB1, cB1, fB1⟩ := B1.out
    go_wp2
    go_ret2
    exact ⟨_, _, by rw [HC0.out]; rfl, HN.out, fun _ => HI.out, fun h => absurd HC0.out h, HW.out⟩
end

section
open Go.RowKit

def InR (f : FuncD) (a b : Int) : Prop := 0 ≤ a ∧ 0 ≤ b ∧ a < (f.blocks.length : Int) ∧ b < (f.blocks.length : Int)
def DDomR (f : FuncD) (a b : Int) (w : World) (e : Ending) (w' : World) : Prop :=
  ∃ (r : Bool) (g : Int), e = .returned (.tuple #[.bool r, .int .i64 g]) ∧ (checkF f ≠ 0 → r = false ∧ g = checkF f) ∧ (checkF f = 0 → ¬ InR f a b → r = false ∧ g = 9) ∧ (checkF f = 0 → InR f a b → g = 0 ∧ (r = true ↔ OverP f a.toNat b.toNat)) ∧ Below w.heap.size w w'
set_option maxHeartbeats 6400000 in
theorem domDominates {w : World} {v : Value} {f : FuncD} (hv : FuncV w v f) {a b : Int} : Calls Try.prog 37 #[v, .int .i64 a, .int .i64 b] w (DDomR f a b w) := by
  have HV := Lib.hid hv
  obtain ⟨ap, cp, ab, cb, rfl, hp, ha, hc, hB⟩ := hv.form
  have hbig : checkF f = 0 → f.blocks.length ≤ 512 := fun h => (formB_nb (check_fine h).1).2
  have HBG := Lib.hid hbig
  obtain ⟨nb, hnb⟩ : ∃ nb, nb = f.blocks.length := ⟨_, rfl⟩
  rw [← hnb] at HV ⊢
  have HNB := Lib.hid hnb
  clear hp ha hc hB hv hbig hnb
  rcases Int.lt_trichotomy a b with hab | hab | hab
  all_goals
    try (have hba : ¬ b < a := by omega)
    try (have hba2 : ¬ a < b := by omega)
    have HAB := Lib.hid hab
    try (have hba3 : a < b := by omega)
    try (have hba4 : b < a := by omega)
    clear hab
    go_enter Try.func37, Try.ntmps37
    go_upto_region 1 with (fail)
    have B1 : Hid (Box (w.alloc (.cells #[.slice ap f.params.length cp, .int .i64 f.arrays, .int .i64 f.cells, .slice ab nb cb] 30)) (w.heap.size) #[.slice ap f.params.length cp, .int .i64 f.arrays, .int .i64 f.cells, .slice ab nb cb]) := Lib.hid (by simpa using (Box.new w #[.slice ap f.params.length cp, .int .i64 f.arrays, .int .i64 f.cells, .slice ab nb cb] 30))
    have HW : Hid (Below w.heap.size w (w.alloc (.cells #[.slice ap f.params.length cp, .int .i64 f.arrays, .int .i64 f.cells, .slice ab nb cb] 30))) := Lib.hid ((Below.refl _ _).alloc (Nat.le_refl _) _)
    generalize (w.alloc (.cells #[.slice ap f.params.length cp, .int .i64 f.arrays, .int .i64 f.cells, .slice ab nb cb] 30)) = wv at *
    obtain ⟨lB1, cB1, fB1⟩ := B1.out
    go_wp2_with fail
    refine (domOpen (HV.out.below HW.out)).mono ?_
    rintro e w2 ⟨hb, ⟨hc0, rfl⟩ | ⟨hc0, bt, bg, lg, lcap, g, pv, ov, lv, O, I, rfl, hvg, hO, hT, hD⟩⟩
    · have hc1 : (checkF f != 0) = true := by simpa using hc0
      have HC0 := Lib.hid hc0
      clear hc0
      clear lB1 cB1 fB1
      replace B1 := Lib.hid (B1.out.later hb)
      replace HW := Lib.hid (HW.out.trans (hb.mono HW.out.size))
      clear hb
      obtain ⟨lB1, cB1, fB1⟩ := B1.out
      go_wp2
      go_ret2
      exact ⟨false, checkF f, rfl, (fun _ => ⟨rfl, rfl⟩), (fun h => absurd h HC0.out), (fun h => absurd h HC0.out), HW.out⟩
    · have HC0 := Lib.hid hc0
      have HT := Lib.hid hT
      have HO := Lib.hid hO
      have HD := Lib.hid hD
      have hbg := HBG.out hc0
      rw [← HNB.out] at hbg
      have HB5 := Lib.hid hbg
      clear hc0 hvg hO hT hD hbg
      clear lB1 cB1 fB1
      replace B1 := Lib.hid (B1.out.later hb)
      replace HW := Lib.hid (HW.out.trans (hb.mono HW.out.size))
      clear hb
      obtain ⟨lB1, cB1, fB1⟩ := B1.out
      have hn0 : (0 : Int) ≤ (nb : Int) := by omega
      by_cases hr : 0 ≤ a ∧ 0 ≤ b ∧ a < (nb : Int) ∧ b < (nb : Int)
      · obtain ⟨r1, r2, r3, r4⟩ := hr
        have HIN : Hid (InR f a b) := Lib.hid ⟨r1, r2, by rw [← HNB.out]; exact r3, by rw [← HNB.out]; exact r4⟩
        have g1 : ¬ a < 0 := by omega
        have g2 : ¬ b < 0 := by omega
        have g3 : ¬ (nb : Int) ≤ a := by omega
        have g4 : ¬ (nb : Int) ≤ b := by omega
        have HOV : Hid (∀ W, TreeM f W bt bg lg lcap g pv ov lv O I → Calls Try.prog 73 #[.pointer (some ⟨bt, 0, none⟩), .int .i64 a, .int .i64 b] W fun e w' => ∃ r : Bool, e = .returned (.bool r) ∧ (r = true ↔ OverP f a.toNat b.toNat) ∧ W = w') := Lib.hid (fun W hW => by
          have h9 := treeOver (a := a.toNat) (b := b.toNat) hW HO.out HD.out (by rw [← HNB.out]; exact HB5.out) (by rw [← HNB.out]; omega) (by rw [← HNB.out]; omega)
          rw [Int.toNat_of_nonneg r1, Int.toNat_of_nonneg r2] at h9
          exact h9)
        go_wp2_with fail
        refine (HOV.out _ HT.out).mono ?_
        rintro e w3 ⟨r, rfl, hr, rfl⟩
        have HR := Lib.hid hr
        clear hr
        go_wp2
        go_ret2
        exact ⟨r, 0, rfl, (fun h => absurd HC0.out h), (fun _ h => absurd HIN.out h), (fun _ _ => ⟨rfl, HR.out⟩), HW.out⟩
      · have HNR : Hid (¬ InR f a b) := Lib.hid (fun h => hr ⟨h.1, h.2.1, by rw [HNB.out]; exact h.2.2.1, by rw [HNB.out]; exact h.2.2.2⟩)
        clear hr
        by_cases g1 : a < 0 <;> by_cases g2 : b < 0 <;> by_cases g3 : (nb : Int) ≤ a <;> by_cases g4 : (nb : Int) ≤ b
        all_goals
          try (exfalso; have h8 := HAB.out; have h9 := HNR.out; unfold InR at h9; have h7 := HNB.out; omega)
        all_goals
          go_wp2
          go_ret2
          exact ⟨false, 9, rfl, (fun h => absurd HC0.out h), (fun _ _ => ⟨rfl, rfl⟩), (fun _ h => absurd h HNR.out), HW.out⟩
theorem idom_simplest {D : List Int} (h : IsIdom simplest D) : D = [-1] := by
  obtain ⟨O, I, hO, hD, rfl⟩ := h
  have h0 := hD.tree.root
  show encI 1 I = [-1]
  unfold encI
  simp [h0]
theorem over_simplest : OverP simplest 0 0 := ⟨.zero (by decide), .zero (by decide), fun h => h.ne rfl⟩
set_option maxHeartbeats 6400000 in
theorem awake4 {w : World} : Calls Try.prog 38 #[] w fun e w' => e = .returned (.bool true) ∧ Below w.heap.size w w' := by
  go_enter Try.func38, Try.ntmps38
  go_wp2_with fail
  have B0 : Hid (Box ((w.alloc (.cells #[.int .i64 1, .int .i64 0, .slice none 0 0, .int .i64 5] 84)).alloc (.cells #[.slice none 0 0, .slice (some ⟨w.heap.size, 0, none⟩) 1 1, .int .i64 3, .int .i64 0, .slice none 0 0, .int .i64 0] 57)) (w.heap.size) #[.int .i64 1, .int .i64 0, .slice none 0 0, .int .i64 5]) := Lib.hid (by simpa using ((Box.new w #[.int .i64 1, .int .i64 0, .slice none 0 0, .int .i64 5] 84).alloc _))
  have B1 : Hid (Box ((w.alloc (.cells #[.int .i64 1, .int .i64 0, .slice none 0 0, .int .i64 5] 84)).alloc (.cells #[.slice none 0 0, .slice (some ⟨w.heap.size, 0, none⟩) 1 1, .int .i64 3, .int .i64 0, .slice none 0 0, .int .i64 0] 57)) (w.heap.size + 1) #[.slice none 0 0, .slice (some ⟨w.heap.size, 0, none⟩) 1 1, .int .i64 3, .int .i64 0, .slice none 0 0, .int .i64 0]) := Lib.hid (by simpa using (Box.new (w.alloc (.cells #[.int .i64 1, .int .i64 0, .slice none 0 0, .int .i64 5] 84)) #[.slice none 0 0, .slice (some ⟨w.heap.size, 0, none⟩) 1 1, .int .i64 3, .int .i64 0, .slice none 0 0, .int .i64 0] 57))
  have HW : Hid (Below w.heap.size w ((w.alloc (.cells #[.int .i64 1, .int .i64 0, .slice none 0 0, .int .i64 5] 84)).alloc (.cells #[.slice none 0 0, .slice (some ⟨w.heap.size, 0, none⟩) 1 1, .int .i64 3, .int .i64 0, .slice none 0 0, .int .i64 0] 57))) := Lib.hid (((Below.refl _ _).alloc (Nat.le_refl _) _).alloc (by simp) _)
  generalize ((w.alloc (.cells #[.int .i64 1, .int .i64 0, .slice none 0 0, .int .i64 5] 84)).alloc (.cells #[.slice none 0 0, .slice (some ⟨w.heap.size, 0, none⟩) 1 1, .int .i64 3, .int .i64 0, .slice none 0 0, .int .i64 0] 57)) = wv at *
  obtain ⟨lB0, cB0, fB0⟩ := B0.out
  obtain ⟨lB1, cB1, fB1⟩ := B1.out
  refine (domIdoms (simplest_val B0.out B1.out)).mono ?_
  rintro e w2 ⟨dv, D, rfl, hI, hD, -, hb⟩
  obtain rfl := idom_simplest (hD simplest_ok.1)
  rw [simplest_ok.1]
  obtain ⟨a, c, b, o, hdv, hc, hm, ha, hx⟩ := hI.parts
  have hx0 := hx 0 (by simp)
  obtain ⟨rfl, hbl⟩ := ha (by simp)
  subst hdv
  rw [show ([-1] : List Int).getD 0 0 = -1 from rfl, Nat.add_zero] at hx0
  simp only [List.length_cons, List.length_nil, Nat.zero_add] at hc ⊢
  clear hD hI hx ha
  clear lB0 cB0 fB0 lB1 cB1 fB1
  replace B0 := Lib.hid (B0.out.later hb)
  replace B1 := Lib.hid (B1.out.later hb)
  replace HW := Lib.hid (HW.out.trans (hb.mono HW.out.size))
  clear hb
  obtain ⟨lB0, cB0, fB0⟩ := B0.out
  obtain ⟨lB1, cB1, fB1⟩ := B1.out
  clear lB0 cB0 fB0 lB1 cB1 fB1
  have HX0 := Lib.hid hx0
  clear hx0
  go_wp2_with fail
  have hbA1 := (Below.refl w2.heap.size w2).alloc (Nat.le_refl _) (.cells #[.int .i64 1, .int .i64 0, .slice none 0 0, .int .i64 5] 84)
  have hbA := hbA1.trans (((Below.refl _ _).alloc (Nat.le_refl _) (.cells #[.slice none 0 0, .slice (some ⟨w2.heap.size, 0, none⟩) 1 1, .int .i64 3, .int .i64 0, .slice none 0 0, .int .i64 0] 57)).mono hbA1.size)
  have HV2 := simplest_val ((Box.new w2 #[.int .i64 1, .int .i64 0, .slice none 0 0, .int .i64 5] 84).alloc (.cells #[.slice none 0 0, .slice (some ⟨w2.heap.size, 0, none⟩) 1 1, .int .i64 3, .int .i64 0, .slice none 0 0, .int .i64 0] 57)) (Box.new _ _ _)
  simp only [World.size_alloc] at HV2
  refine (domDominates (a := 0) (b := 0) HV2).mono ?_
  rintro e w3 ⟨r, g, rfl, -, -, hr, hb⟩
  obtain ⟨rfl, hr2⟩ := hr simplest_ok.1 ⟨by decide, by decide, by decide, by decide⟩
  obtain rfl := hr2.2 over_simplest
  have hb2 := hbA.trans (hb.mono hbA.size)
  have hc0 := (hb2.cell (p := ⟨b, o, none⟩) hbl).trans HX0.out
  replace HW := Lib.hid (HW.out.trans (hb2.mono HW.out.size))
  clear hr hr2 hb hbA hbA1 HV2 hb2
  go_wp2
  go_ret
  exact ⟨rfl, HW.out⟩
end

section
open Go.RowKit

theorem DomI.over {f : FuncD} {O : List Nat} {I : Nat → Option Nat} (h : DomI f O I) {c v : Nat} (hv : Way (toB f) (-1) v) : Anc I c v ↔ OverP f c v :=
  ⟨fun ha => ⟨h.tree.proc_way (h.tree.procs ha (h.proc hv)), hv, (h.anc hv).1 ha⟩, fun ho => (h.anc hv).2 ho.2.2⟩
theorem over_antisymm {f : FuncD} {O : List Nat} (hO : IsOrder f O) {a b : Nat} (h : OverP f a b) (k : OverP f b a) : a = b := by
  have hP := hO.placed
  have low : ∀ (c n u : Nat), Way (toB f) (-1) c → O.idxOf u ≤ n → Way (toB f) (-1) u → O.idxOf u < O.idxOf c → Way (toB f) (c : Int) u := by
    intro c n
    induction n with
    | zero =>
      intro u hc hn hu hl
      have : u = 0 := hP.inj hu (.zero (by decide)) (by have h9 : O.idxOf 0 = 0 := hP.zero; show O.idxOf u = O.idxOf 0; omega)
      subst this
      exact .zero (fun e => by
        have : c = 0 := by omega
        subst this; omega)
    | succ n ih =>
      intro u hc hn hu hl
      by_cases e0 : u = 0
      · subst e0
        exact .zero (fun e => by
          have : c = 0 := by omega
          subst this; omega)
      · obtain ⟨q, q1, q2, q3⟩ := hP.ahead hu e0
        have q3 : O.idxOf q < O.idxOf u := q3
        exact .step (ih q hc (by omega) q1 (by omega)) q2 (fun e => by
          have : u = c := by omega
          subst this; omega)
  rcases Nat.lt_trichotomy (O.idxOf a) (O.idxOf b) with h1 | h1 | h1
  · exact absurd (low b _ a h.2.1 (Nat.le_refl _) h.1 h1) k.2.2
  · exact hP.inj h.1 h.2.1 h1
  · exact absurd (low a _ b h.1 (Nat.le_refl _) h.2.1 h1) h.2.2
theorem over_refl {f : FuncD} {a : Nat} (h : Way (toB f) (-1) a) : OverP f a a := ⟨h, h, fun hw => hw.ne rfl⟩
def GoodB (f : FuncD) (x : Int) : Prop := 0 ≤ x ∧ x < (f.blocks.length : Int) ∧ Way (toB f) (-1) x.toNat
def AllIn (f : FuncD) (xs : List Int) : Prop := ∀ x ∈ xs, GoodB f x
def Closest (f : FuncD) (xs : List Int) (m : Nat) : Prop := Way (toB f) (-1) m ∧ ∀ c, OverP f c m ↔ ∀ x ∈ xs, OverP f c x.toNat
def DMeetR (f : FuncD) (xs : List Int) (w : World) (e : Ending) (w' : World) : Prop :=
  ∃ m g : Int, e = .returned (.tuple #[.int .i64 m, .int .i64 g]) ∧ (checkF f ≠ 0 → m = 0 ∧ g = checkF f) ∧ (checkF f = 0 → xs = [] → m = 0 ∧ g = 1) ∧ (checkF f = 0 → xs ≠ [] → ¬ AllIn f xs → m = 0 ∧ g = 9) ∧
    (checkF f = 0 → xs ≠ [] → AllIn f xs → g = 0 ∧ ∃ n : Nat, m = n ∧ Closest f xs n ∧ ∃ O, IsOrder f O) ∧ Below w.heap.size w w'
set_option maxHeartbeats 12800000 in
set_option maxRecDepth 100000 in
theorem domMeetOf {w : World} {v u : Value} {f : FuncD} {xs : List Int} (hv : FuncV w v f) (hu : Ints w u xs) : Calls Try.prog 47 #[v, u] w (DMeetR f xs w) := by
  have HV := Lib.hid hv
  obtain ⟨ap, cp, ab, cb, rfl, hp, ha, hc, hB⟩ := hv.form
  have HBG : Hid (checkF f = 0 → f.blocks.length ≤ 512) := Lib.hid (fun h => (formB_nb (check_fine h).1).2)
  obtain ⟨nb, hnb⟩ : ∃ nb, nb = f.blocks.length := ⟨_, rfl⟩
  rw [← hnb] at HV ⊢
  have HNB := Lib.hid hnb
  have hbig := hu.le
  obtain ⟨ua, uc, ub, uo, rfl, huc, hum, hua, hux⟩ := hu.parts
  obtain ⟨ul, hul⟩ : ∃ ul, ul = xs.length := ⟨_, rfl⟩
  rw [← hul] at huc hua hbig ⊢
  have HUL := Lib.hid hul
  have HUA := Lib.hid hua
  have HUX := Lib.hid hux
  clear hp ha hc hB hv hnb hua hux hul hu
  go_enter Try.func47, Try.ntmps47
  go_upto_region 1 with (fail)
  have B1 : Hid (Box (w.alloc (.cells #[.slice ap f.params.length cp, .int .i64 f.arrays, .int .i64 f.cells, .slice ab nb cb] 30)) (w.heap.size) #[.slice ap f.params.length cp, .int .i64 f.arrays, .int .i64 f.cells, .slice ab nb cb]) := Lib.hid (by simpa using (Box.new w #[.slice ap f.params.length cp, .int .i64 f.arrays, .int .i64 f.cells, .slice ab nb cb] 30))
  have HW : Hid (Below w.heap.size w (w.alloc (.cells #[.slice ap f.params.length cp, .int .i64 f.arrays, .int .i64 f.cells, .slice ab nb cb] 30))) := Lib.hid ((Below.refl _ _).alloc (Nat.le_refl _) _)
  generalize (w.alloc (.cells #[.slice ap f.params.length cp, .int .i64 f.arrays, .int .i64 f.cells, .slice ab nb cb] 30)) = wv at *
  obtain ⟨lB1, cB1, fB1⟩ := B1.out
  go_wp2_with fail
  refine (domOpen (HV.out.below HW.out)).mono ?_
  rintro e w2 ⟨hb, ⟨hc0, rfl⟩ | ⟨hc0, bt, bg, lg, lcap, g, pv, ov, lv, O, I, rfl, hvg, hO, hT, hD⟩⟩
  · have hc1 : (checkF f != 0) = true := by simpa using hc0
    have HC0 := Lib.hid hc0
    clear hc0
    clear lB1 cB1 fB1
    replace B1 := Lib.hid (B1.out.later hb)
    replace HW := Lib.hid (HW.out.trans (hb.mono HW.out.size))
    clear hb
    obtain ⟨lB1, cB1, fB1⟩ := B1.out
    go_wp2
    go_ret2
    exact ⟨0, checkF f, rfl, (fun _ => ⟨rfl, rfl⟩), (fun h => absurd h HC0.out), (fun h => absurd h HC0.out), (fun h => absurd h HC0.out), HW.out⟩
  · have HC0 := Lib.hid hc0
    have HT := Lib.hid hT
    have HO := Lib.hid hO
    have HD := Lib.hid hD
    have h512 := HBG.out hc0
    have HB5 := Lib.hid h512
    obtain ⟨d0, d1, -, -, d6⟩ := hT.cells
    obtain ⟨la, lc, lb, lo, hle, hlc, hlm, hla, hlx⟩ := hT.place.parts
    rw [placeI_len] at hle hlc hla
    subst hle
    rw [← HNB.out] at h512 d6 hlc hla
    have HLX := Lib.hid hlx
    have HLA := Lib.hid hla
    clear hc0 hvg hO hT hD hla hlx
    clear lB1 cB1 fB1
    replace B1 := Lib.hid (B1.out.later hb)
    replace HW := Lib.hid (HW.out.trans (hb.mono HW.out.size))
    clear hb
    obtain ⟨lB1, cB1, fB1⟩ := B1.out
    have hn0 : (0 : Int) ≤ (nb : Int) := by omega
    by_cases hul0 : ul = 0
    · have HXE : Hid (xs = []) := Lib.hid (List.eq_nil_of_length_eq_zero (by rw [← HUL.out]; exact hul0))
      go_wp2
      go_ret2
      exact ⟨0, 1, rfl, (fun h => absurd HC0.out h), (fun _ _ => ⟨rfl, rfl⟩), (fun _ h => absurd HXE.out h), (fun _ h => absurd HXE.out h), HW.out⟩
    · have HNE : Hid (xs ≠ []) := Lib.hid (fun h => hul0 (by rw [HUL.out, h]; rfl))
      obtain ⟨rfl, hub⟩ := HUA.out (by omega)
      have hq0 : ((ul : Int) == 0) = false := by simp; exact hul0
      obtain ⟨un, hun⟩ : ∃ un, ul = un + 1 := ⟨ul - 1, by omega⟩
      have HUN := Lib.hid hun
      clear hul0 hun
      go_wp2_with fail
      go_loopw [26] (fun iv wr => ∃ i : Nat, i ≤ ul ∧ iv = .int .i64 i ∧ (∀ x ∈ xs.take i, GoodB f x) ∧ wr = w2) (fun iv _ => ul - (intOf iv).toNat)
      case atStart => exact ⟨0, Nat.zero_le _, rfl, by simp, rfl⟩
      case round =>
        obtain ⟨i, hi, rfl, hg, rfl⟩ := hrel
        have HGD := Lib.hid hg
        clear hg
        by_cases hlt : i < ul
        · have hcu := (HW.out.cell (p := ⟨ub, uo + i, none⟩) hub).trans (HUX.out i (by have := HUL.out; omega))
          obtain ⟨x, hx⟩ : ∃ x, x = xs.getD i 0 := ⟨_, rfl⟩
          have hxm : xs[i]? = some x := by rw [hx]; exact list_at xs i (by have := HUL.out; omega)
          have HXM := Lib.hid (List.mem_of_getElem? hxm)
          have HTK := Lib.hid (take_snoc xs i x hxm)
          rw [← hx] at hcu
          clear hx hxm
          by_cases h1 : x < 0
          · have HNG : Hid (¬ GoodB f x) := Lib.hid (fun h => by have := h.1; omega)
            have HBAD : Hid (¬ AllIn f xs) := Lib.hid (fun h => HNG.out (h x HXM.out))
            go_wp2
            go_ret2
            exact ⟨0, 9, rfl, (fun h => absurd HC0.out h), (fun _ h => absurd h HNE.out), (fun _ _ _ => ⟨rfl, rfl⟩), (fun _ _ h => absurd h HBAD.out), HW.out⟩
          · by_cases h2 : (nb : Int) ≤ x
            · have HNG : Hid (¬ GoodB f x) := Lib.hid (fun h => by have := h.2.1; have := HNB.out; omega)
              have HBAD : Hid (¬ AllIn f xs) := Lib.hid (fun h => HNG.out (h x HXM.out))
              go_wp2
              go_ret2
              exact ⟨0, 9, rfl, (fun h => absurd HC0.out h), (fun _ h => absurd h HNE.out), (fun _ _ _ => ⟨rfl, rfl⟩), (fun _ _ h => absurd h HBAD.out), HW.out⟩
            · obtain ⟨xn, rfl⟩ : ∃ xn : Nat, x = (xn : Int) := ⟨x.toNat, by omega⟩
              have hxl : xn < nb := by omega
              obtain ⟨rfl, hlb⟩ := HLA.out (by omega)
              have hpl := HLX.out xn (by rw [placeI_len, ← HNB.out]; exact hxl)
              rw [List.getD_eq_getElem?_getD, placeI_at (by rw [← HNB.out]; exact hxl), Option.getD_some] at hpl
              obtain ⟨p1, p2, p3, p4, p5⟩ := HO.out.facts
              have hw2 := p2 xn
              clear p1 p2 p3 p4 p5
              by_cases hin : xn ∈ O
              · rw [if_pos hin] at hpl
                have HGX : Hid (GoodB f (xn : Int)) := Lib.hid ⟨by omega, by rw [← HNB.out]; omega, by rw [Int.toNat_natCast]; exact hw2.1 hin⟩
                clear hin hw2
                go_wp2
                go_roundw
                case rel => exact ⟨i + 1, hlt, by go_num, by rw [HTK.out]; exact fun y hy => by rcases List.mem_append.1 hy with h | h; exact HGD.out y h; simp at h; subst h; exact HGX.out, by first | rfl | trivial⟩
                case measure => simp [intOf]; omega
              · rw [if_neg hin] at hpl
                obtain ⟨x, hx⟩ : ∃ x, x = (xn : Int) := ⟨_, rfl⟩
                have HNG : Hid (¬ GoodB f x) := Lib.hid (fun h => by
                  have h9 := h.2.2
                  rw [hx, Int.toNat_natCast] at h9
                  exact hin (hw2.2 h9))
                rw [← hx] at HXM
                clear hin hw2 hx
                have HBAD : Hid (¬ AllIn f xs) := Lib.hid (fun h => HNG.out (h x HXM.out))
                go_wp2
                go_ret2
                exact ⟨0, 9, rfl, (fun h => absurd HC0.out h), (fun _ h => absurd h HNE.out), (fun _ _ _ => ⟨rfl, rfl⟩), (fun _ _ h => absurd h HBAD.out), HW.out⟩
        · have hil : i = ul := by omega
          have HAL : Hid (AllIn f xs) := Lib.hid (fun x hx => HGD.out x (by rw [List.take_of_length_le (by have := HUL.out; omega)]; exact hx))
          obtain ⟨x, hx⟩ : ∃ x, x = xs.getD 0 0 := ⟨_, rfl⟩
          have hxm : xs[0]? = some x := by rw [hx]; exact list_at xs 0 (by have := HUL.out; have := HUN.out; omega)
          have hcu := (HW.out.cell (p := ⟨ub, uo + 0, none⟩) hub).trans (HUX.out 0 (by have := HUL.out; have := HUN.out; omega))
          rw [← hx, Nat.add_zero] at hcu
          have hgx := HAL.out x (List.mem_of_getElem? hxm)
          obtain ⟨xn, rfl⟩ : ∃ xn : Nat, x = (xn : Int) := ⟨x.toNat, by have := hgx.1; omega⟩
          have hxw := hgx.2.2
          rw [Int.toNat_natCast] at hxw
          have HXW := Lib.hid hxw
          have HSTA : Hid (∀ c, Anc I c xn ↔ ∀ x ∈ xs.take 1, Anc I c x.toNat) := Lib.hid (fun c => by
            rw [take_snoc xs 0 _ hxm]; simp)
          have hu2 := HUN.out
          subst hu2
          clear hil hx hxm hgx hxw hq0
          have HHU := Lib.hid huc
          obtain ⟨W9, hW9⟩ : ∃ W9, W9 = wr := ⟨_, rfl⟩
          have HSI : Hid (Below W9.heap.size W9 wr) := Lib.hid (by rw [hW9]; exact Below.refl _ _)
          rw [← hW9] at HW HT
          clear hW9
          rcases Decidable.em (uc = 1) with huc1 | huc1
          all_goals
            try subst huc1
            clear huc
            go_wp2_with fail
            go_loopw [10, 59] (fun av iv wr => ∃ (i a : Nat), i ≤ un ∧ iv = .int .i64 i ∧ av = .int .i64 a ∧ Proc I a ∧ (∀ c, Anc I c a ↔ ∀ x ∈ xs.take (i + 1), Anc I c x.toNat) ∧ Below W9.heap.size W9 wr) (fun _ iv _ => un - (intOf iv).toNat)
            case atStart => exact ⟨0, xn, Nat.zero_le _, rfl, rfl, HD.out.proc HXW.out, HSTA.out, HSI.out⟩
            case round =>
              obtain ⟨i2, a, hi2, rfl, rfl, hpa, han, hW2⟩ := hrel
              have HPA := Lib.hid hpa
              have HAN := Lib.hid han
              have HW2 := Lib.hid hW2
              clear hpa han hW2
              by_cases hlt2 : i2 < un
              · try (exfalso; have := HHU.out; omega)
                all_goals
                  obtain ⟨y, hy⟩ : ∃ y, y = xs.getD (i2 + 1) 0 := ⟨_, rfl⟩
                  have hym : xs[i2 + 1]? = some y := by rw [hy]; exact list_at xs (i2 + 1) (by have := HUL.out; omega)
                  have hcy := ((HW.out.trans (HW2.out.mono HW.out.size)).cell (p := ⟨ub, uo + (i2 + 1), none⟩) hub).trans (HUX.out (i2 + 1) (by have := HUL.out; omega))
                  rw [← hy, show uo + (i2 + 1) = uo + 1 + i2 by omega] at hcy
                  have hgy := HAL.out y (List.mem_of_getElem? hym)
                  obtain ⟨yn, rfl⟩ : ∃ yn : Nat, y = (yn : Int) := ⟨y.toNat, by have := hgy.1; omega⟩
                  have hyw := hgy.2.2
                  rw [Int.toNat_natCast] at hyw
                  have HTY := Lib.hid (take_snoc xs (i2 + 1) _ hym)
                  have HYP := Lib.hid (HD.out.proc hyw)
                  clear hy hym hgy hyw
                  go_wp2_with fail
                  refine (domMeet (HT.out.later HW2.out) HO.out HB5.out HD.out.tree HPA.out HYP.out).mono ?_
                  rintro e w8 ⟨m2, rfl, hm2, hmm, hb8⟩
                  have HM2 := Lib.hid hm2
                  have HMM := Lib.hid hmm
                  have HW8 := Lib.hid (HW2.out.trans (hb8.mono HW2.out.size))
                  clear hm2 hmm hb8
                  go_wp2
                  go_roundw
                  case rel => exact ⟨i2 + 1, m2, hlt2, by go_num, rfl, HM2.out, fun c => by
                    rw [HMM.out c, HAN.out c, HTY.out]
                    constructor
                    · rintro ⟨h1, h2⟩ z hz
                      rcases List.mem_append.1 hz with hz | hz
                      · exact h1 z hz
                      · simp at hz; subst hz; rw [Int.toNat_natCast]; exact h2
                    · intro h
                      exact ⟨fun z hz => h z (List.mem_append.2 (.inl hz)), by have := h (yn : Int) (List.mem_append.2 (.inr (by simp))); rwa [Int.toNat_natCast] at this⟩, HW8.out⟩
                  case measure => simp [intOf]; omega
              · have hiu : i2 = un := by omega
                have HRS : Hid (Closest f xs a) := Lib.hid (by
                  have haw := HD.out.tree.proc_way HPA.out
                  refine ⟨haw, fun c => ?_⟩
                  rw [← HD.out.over haw, HAN.out c, hiu, List.take_of_length_le (by have := HUL.out; omega)]
                  constructor
                  · intro h z hz; exact (HD.out.over (HAL.out z hz).2.2).1 (h z hz)
                  · intro h z hz; exact (HD.out.over (HAL.out z hz).2.2).2 (h z hz))
                have HWE := Lib.hid (HW.out.trans (HW2.out.mono HW.out.size))
                clear hiu
                go_wp2
                go_ret2
                exact ⟨a, 0, rfl, (fun h => absurd HC0.out h), (fun _ h => absurd h HNE.out), (fun _ _ h => absurd HAL.out h), (fun _ _ _ => ⟨rfl, a, rfl, HRS.out, O, HO.out⟩), HWE.out⟩
end

end Go.Proofs.Ytefpmjnimnmniaa
