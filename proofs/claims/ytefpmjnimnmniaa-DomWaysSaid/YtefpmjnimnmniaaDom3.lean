/- dom.Open, Over, Idoms, Dominates; the law's 'awake'. -/
import Derived.Test.YtefpmjnimnmniaaDom2
import Derived.Test.YtefpmjnimnmniaaGrL1
namespace Go.Proofs.Ytefpmjnimnmniaa
set_option linter.unusedSimpArgs false
set_option linter.unusedVariables false
open Go.RowKit

/-- a dominates b. -/
def OverP (f : FuncD) (a b : Nat) : Prop := Way (toB f) (-1) a ∧ Way (toB f) (-1) b ∧ ¬ Way (toB f) (a : Int) b
def DOpenR (f : FuncD) (v : Value) (w : World) (e : Ending) (w' : World) : Prop :=
  Below w.heap.size w w' ∧ ((checkF f ≠ 0 ∧ e = .returned (.tuple #[.pointer none, .int .i64 (checkF f)])) ∨
    (checkF f = 0 ∧ ∃ (bt bg lg lcap : Nat) (g : Array Value) (pv ov lv : Value) (O : List Nat) (I : Nat → Option Nat), e = .returned (.tuple #[.pointer (some ⟨bt, 0, none⟩), .int .i64 0]) ∧ v = .agg g ∧ IsOrder f O ∧ TreeM f w' bt bg lg lcap g pv ov lv O I ∧ DomI f O I))
set_option maxHeartbeats 3200000 in
theorem domOpen {w : World} {v : Value} {f : FuncD} (hv : FuncV w v f) : Calls Try.prog 72 #[v] w (DOpenR f v w) := by
  have HV := Lib.hid hv
  obtain ⟨ap, cp, ab, cb, rfl, hp, ha, hc, hB⟩ := hv.form
  clear hp ha hc hB hv
  go_enter Try.func72, Try.ntmps72
  go_upto_region 1 with (fail)
  have B1 : Hid (Box (w.alloc (.cells #[.slice ap f.params.length cp, .int .i64 f.arrays, .int .i64 f.cells, .slice ab f.blocks.length cb] 30)) (w.heap.size) #[.slice ap f.params.length cp, .int .i64 f.arrays, .int .i64 f.cells, .slice ab f.blocks.length cb]) := Lib.hid (by simpa using (Box.new w #[.slice ap f.params.length cp, .int .i64 f.arrays, .int .i64 f.cells, .slice ab f.blocks.length cb] 30))
  have HW : Hid (Below w.heap.size w (w.alloc (.cells #[.slice ap f.params.length cp, .int .i64 f.arrays, .int .i64 f.cells, .slice ab f.blocks.length cb] 30))) := Lib.hid ((Below.refl _ _).alloc (Nat.le_refl _) _)
  generalize (w.alloc (.cells #[.slice ap f.params.length cp, .int .i64 f.arrays, .int .i64 f.cells, .slice ab f.blocks.length cb] 30)) = wv at *
  obtain ⟨lB1, cB1, fB1⟩ := B1.out
  go_wp2_with fail
  refine (graphOpen (HV.out.below HW.out)).mono ?_
  rintro e w2 ⟨hb, ⟨hc0, rfl⟩ | ⟨hc0, bg, O, rfl, hO, hG⟩⟩
  · have hc1 : (checkF f != 0) = true := by simpa using hc0
    have HC0 := Lib.hid hc0
    clear hc0
    clear lB1 cB1 fB1
    replace B1 := Lib.hid (B1.out.later hb)
    replace HW := Lib.hid (HW.out.trans (hb.mono HW.out.size))
    clear hb
    obtain ⟨lB1, cB1, fB1⟩ := B1.out
    go_wp2
    go_ret2
    exact ⟨HW.out, .inl ⟨HC0.out, rfl⟩⟩
  · have HC0 := Lib.hid hc0
    have HO := Lib.hid hO
    have HG := Lib.hid hG
    clear hc0 hO hG
    clear lB1 cB1 fB1
    replace B1 := Lib.hid (B1.out.later hb)
    replace HW := Lib.hid (HW.out.trans (hb.mono HW.out.size))
    clear hb
    obtain ⟨lB1, cB1, fB1⟩ := B1.out
    go_wp2_with fail
    refine (domNew (HV.out.below HW.out) HG.out HO.out (check_fine HC0.out).1).mono ?_
    rintro e w3 ⟨bt, lg, lcap, g, pv, ov, lv, I, rfl, hvg, hT, hD, hb⟩
    have HT := Lib.hid hT
    have HD := Lib.hid hD
    have HVG := Lib.hid hvg
    clear hT hD hvg
    clear lB1 cB1 fB1
    replace B1 := Lib.hid (B1.out.later hb)
    replace HW := Lib.hid (HW.out.trans (hb.mono HW.out.size))
    clear hb
    obtain ⟨lB1, cB1, fB1⟩ := B1.out
    go_wp2
    go_ret2
    exact ⟨HW.out, .inr ⟨HC0.out, bt, bg, lg, lcap, g, pv, ov, lv, O, I, rfl, HVG.out, HO.out, HT.out, HD.out⟩⟩
set_option maxHeartbeats 6400000 in
theorem treeOver {W : World} {f : FuncD} {bt bg lg lcap : Nat} {g : Array Value} {pv ov lv : Value} {O : List Nat} {I : Nat → Option Nat} (hT : TreeM f W bt bg lg lcap g pv ov lv O I) (hO : IsOrder f O) (hI : DomI f O I) (h512 : f.blocks.length ≤ 512)
    {a b : Nat} (ha : a < f.blocks.length) (hb : b < f.blocks.length) :
    Calls Try.prog 73 #[.pointer (some ⟨bt, 0, none⟩), .int .i64 a, .int .i64 b] W fun e w' => ∃ r : Bool, e = .returned (.bool r) ∧ (r = true ↔ OverP f a b) ∧ W = w' := by
  obtain ⟨hc0, hc1, -, -, hc6⟩ := hT.cells
  obtain ⟨pa, pc, pb, po, hpe, hpc, hpm, hpa, hpx⟩ := hT.place.parts
  rw [placeI_len] at hpe hpc hpa
  subst hpe
  obtain ⟨lc2, -, -, -, hil, hif⟩ := hT.idom.form
  obtain ⟨h1, h2, h3, h4, h5⟩ := hO.facts
  obtain ⟨nb, hnb⟩ : ∃ nb, nb = f.blocks.length := ⟨_, rfl⟩
  have hda := hpx a (by rw [placeI_len]; exact ha)
  have hdb := hpx b (by rw [placeI_len]; exact hb)
  rw [List.getD_eq_getElem?_getD, placeI_at ha, Option.getD_some] at hda
  rw [List.getD_eq_getElem?_getD, placeI_at hb, Option.getD_some] at hdb
  rw [← hnb] at hc1 hpc hpa hil h512 h3 hc6 ha hb
  obtain ⟨rfl, hpb⟩ := hpa (by omega)
  have HIL := Lib.hid hil
  have HTR := Lib.hid hI.tree
  have HPR := Lib.hid (fun (v : Nat) (h : Way (toB f) (-1) v) => hI.proc h)
  have HAN := Lib.hid (fun (c v : Nat) (h : Way (toB f) (-1) v) => hI.anc (c := c) h)
  have HO2 := Lib.hid h2
  have HO3 := Lib.hid h3
  clear hT hpx hil hif h1 h3 h4 h5 hI hO hnb hpa
  by_cases haO : a ∈ O
  · rw [if_pos haO] at hda
    have hna : decide (((O.idxOf a : Nat) : Int) < 0) = false := by simp
    by_cases hbO : b ∈ O
    · rw [if_pos hbO] at hdb
      have hnb : decide (((O.idxOf b : Nat) : Int) < 0) = false := by simp
      have HAW := Lib.hid ((h2 a).1 haO)
      have HBW := Lib.hid ((h2 b).1 hbO)
      clear h2 haO hbO
      go_enter Try.func73, Try.ntmps73
      go_wp2_with fail
      clear hda hdb hna hnb
      go_loopw [2] (fun u wr => ∃ b' : Nat, u = .int .i64 b' ∧ Way (toB f) (-1) b' ∧ (Anc I a b' ↔ Anc I a b) ∧ W = wr) (fun u _ => O.idxOf (intOf u).toNat)
      case atStart => exact ⟨b, rfl, HBW.out, Iff.rfl, rfl⟩
      case round =>
        obtain ⟨c, rfl, hcw, hci, rfl⟩ := hrel
        have HCW := Lib.hid hcw
        have HCI := Lib.hid hci
        have hcl := HO3.out c ((HO2.out c).2 hcw)
        clear hcw hci
        by_cases hca : c = a
        · have hq : ((c : Int) != (a : Int)) = false := by simp [hca]
          have hq2 : ((a : Int) == (c : Int)) = true := by simp [hca]
          have HR : Hid (OverP f a b) := Lib.hid ⟨HAW.out, HBW.out, (HAN.out a b HBW.out).1 (HCI.out.1 (by rw [hca]; exact .refl))⟩
          have HQ2 := Lib.hid hq2
          clear hca hq2
          go_wp2
          go_ret
          refine ⟨_, rfl, ?_, ?_⟩
          · first | exact ⟨fun _ => HR.out, fun _ => HQ2.out⟩ | simp [HR.out]
          · first | rfl | trivial
        · have hq : ((c : Int) != (a : Int)) = true := by simp; omega
          by_cases hc00 : c = 0
          · have hq2 : ((a : Int) == (c : Int)) = false := by simp; omega
            have HQ2 := Lib.hid hq2
            clear hq2
            have HR : Hid (¬ OverP f a b) := Lib.hid (fun h => by
              have h9 := HCI.out.2 ((HAN.out a b HBW.out).2 h.2.2)
              rw [hc00] at h9
              exact hca (by rw [hc00, HTR.out.anc_zero h9]))
            have hcn : ¬ 0 < c := by omega
            clear hca hc00
            go_wp2
            go_ret
            refine ⟨_, rfl, ?_, ?_⟩
            · first | exact ⟨fun h => absurd (HQ2.out.symm.trans h) (by simp), fun h => absurd h HR.out⟩ | simp [HR.out]
            · first | rfl | trivial
          · have hgt : 0 < c := by omega
            obtain ⟨p, hp⟩ := Option.isSome_iff_exists.1 ((HPR.out c HCW.out).resolve_left hc00)
            obtain ⟨p1, p2, p3, p4⟩ := HTR.out.par hp
            have dp := HIL.out c p (encI_some hcl hp)
            have HP2 := Lib.hid p2
            have HP3 := Lib.hid p3
            have HAP : Hid (Anc I a p ↔ Anc I a b) := Lib.hid (by
              rw [← HCI.out]
              constructor
              · exact fun h => .up hp h
              · intro h
                rcases h.parts with e | ⟨q, e, h⟩
                · exact absurd e.symm hca
                · rw [hp] at e; cases e; exact h)
            clear hca hc00 hp p1 p2 p3 p4
            go_wp2
            go_roundw
            case rel => exact ⟨p, rfl, HP2.out, HAP.out, by first | rfl | trivial⟩
            case measure =>
              have h9 := HP3.out
              simp only [intOf, Int.toNat_natCast] at h9 ⊢
              exact h9
    · rw [if_neg hbO] at hdb
      have HN : Hid (¬ OverP f a b) := Lib.hid (fun h => hbO ((h2 b).2 h.2.1))
      clear h2 haO hbO
      go_enter Try.func73, Try.ntmps73
      go_wp2
      go_ret
      exact ⟨false, rfl, by simpa using HN.out, rfl⟩
  · rw [if_neg haO] at hda
    have HN : Hid (¬ OverP f a b) := Lib.hid (fun h => haO ((h2 a).2 h.1))
    clear h2 haO
    go_enter Try.func73, Try.ntmps73
    go_wp2
    go_ret
    exact ⟨false, rfl, by simpa using HN.out, rfl⟩
/-- What dominates each block closest. -/
def IsIdom (f : FuncD) (D : List Int) : Prop := ∃ O I, IsOrder f O ∧ DomI f O I ∧ D = encI f.blocks.length I
def DIdomR (f : FuncD) (w : World) (e : Ending) (w' : World) : Prop :=
  ∃ dv D, e = .returned (.tuple #[dv, .int .i64 (checkF f)]) ∧ Ints w' dv D ∧ (checkF f = 0 → IsIdom f D) ∧ (checkF f ≠ 0 → D = []) ∧ Below w.heap.size w w'
theorem DomI.low {f : FuncD} {O : List Nat} {I : Nat → Option Nat} (hO : IsOrder f O) (h : DomI f O I) {b p : Nat} (hp : I b = some p) : p < f.blocks.length := by
  obtain ⟨h1, h2, h3, h4, h5⟩ := hO.facts
  exact h3 p ((h2 p).2 (h.tree.par hp).2.1)
set_option maxHeartbeats 3200000 in
theorem domIdoms {w : World} {v : Value} {f : FuncD} (hv : FuncV w v f) : Calls Try.prog 36 #[v] w (DIdomR f w) := by
  have HV := Lib.hid hv
  obtain ⟨ap, cp, ab, cb, rfl, hp, ha, hc, hB⟩ := hv.form
  clear hp ha hc hB hv
  go_enter Try.func36, Try.ntmps36
  go_upto_region 1 with (fail)
  have B1 : Hid (Box (w.alloc (.cells #[.slice ap f.params.length cp, .int .i64 f.arrays, .int .i64 f.cells, .slice ab f.blocks.length cb] 30)) (w.heap.size) #[.slice ap f.params.length cp, .int .i64 f.arrays, .int .i64 f.cells, .slice ab f.blocks.length cb]) := Lib.hid (by simpa using (Box.new w #[.slice ap f.params.length cp, .int .i64 f.arrays, .int .i64 f.cells, .slice ab f.blocks.length cb] 30))
  have HW : Hid (Below w.heap.size w (w.alloc (.cells #[.slice ap f.params.length cp, .int .i64 f.arrays, .int .i64 f.cells, .slice ab f.blocks.length cb] 30))) := Lib.hid ((Below.refl _ _).alloc (Nat.le_refl _) _)
  generalize (w.alloc (.cells #[.slice ap f.params.length cp, .int .i64 f.arrays, .int .i64 f.cells, .slice ab f.blocks.length cb] 30)) = wv at *
  obtain ⟨lB1, cB1, fB1⟩ := B1.out
  go_wp2_with fail
  refine (domOpen (HV.out.below HW.out)).mono ?_
  rintro e w2 ⟨hb, ⟨hc0, rfl⟩ | ⟨hc0, bt, bg, lg, lcap, g, pv, ov, lv, O, I, rfl, hvg, hO, hT, hD⟩⟩
  · have hc1 : (checkF f != 0) = true := by simpa using hc0
    have HC0 := Lib.hid hc0
    clear hc0
    clear lB1 cB1 fB1
    replace B1 := Lib.hid (B1.out.later hb)
    replace HW := Lib.hid (HW.out.trans (hb.mono HW.out.size))
    clear hb
    obtain ⟨lB1, cB1, fB1⟩ := B1.out
    go_wp2
    go_ret2
    exact ⟨_, [], rfl, ints_nil, fun h => absurd h HC0.out, fun _ => rfl, HW.out⟩
  · have HC0 := Lib.hid hc0
    have hn := formB_nb (check_fine hc0).1
    have HN : Hid (Ints w2 (.slice (some ⟨lg, 0, none⟩) f.blocks.length lcap) (encI f.blocks.length I)) := Lib.hid (hT.idom.ints (by rw [encI_len]; omega) (encI_64 fun b p hp => by have := hD.low hO hp; omega))
    have HI : Hid (IsIdom f (encI f.blocks.length I)) := Lib.hid ⟨O, I, hO, hD, rfl⟩
    obtain ⟨-, hc1, -⟩ := hT.cells
    clear hc0 hn hO hT hD hvg
    clear lB1 cB1 fB1
    replace B1 := Lib.hid (B1.out.later hb)
    replace HW := Lib.hid (HW.out.trans (hb.mono HW.out.size))
    clear hb
    obtain ⟨lB1, cB1, fB1⟩ := B1.out
    go_wp2
    go_ret2
    exact ⟨_, _, by rw [HC0.out]; rfl, HN.out, fun _ => HI.out, fun h => absurd HC0.out h, HW.out⟩
end Go.Proofs.Ytefpmjnimnmniaa
