/- GraphWays: the law. -/
import Derived.Test.YtefpmjnimnmniaaGE
namespace Go.Proofs.Ytefpmjnimnmniaa
set_option linter.unusedSimpArgs false
set_option linter.unusedVariables false
open Go.RowKit

theorem order_simplest {O : List Nat} (h : IsOrder simplest O) : O = [0] := by
  obtain ⟨h1, -, h2, h3, -⟩ := h.facts
  have h4 := h.le
  have h5 : simplest.blocks.length = 1 := rfl
  rw [h5] at h4
  cases O with
  | nil => cases h3
  | cons a l =>
    have : l = [] := List.eq_nil_of_length_eq_zero (by rw [List.length_cons] at h4; omega)
    subst this
    simp at h3; rw [h3]
set_option maxHeartbeats 3200000 in
theorem awake3 {w : World} : Calls Try.prog 31 #[] w fun e w' => e = .returned (.bool true) ∧ Below w.heap.size w w' := by
  go_enter Try.func31, Try.ntmps31
  go_wp2_with fail
  have B0 : Hid (Box ((w.alloc (.cells #[.int .i64 1, .int .i64 0, .slice none 0 0, .int .i64 5] 84)).alloc (.cells #[.slice none 0 0, .slice (some ⟨w.heap.size, 0, none⟩) 1 1, .int .i64 3, .int .i64 0, .slice none 0 0, .int .i64 0] 57)) (w.heap.size) #[.int .i64 1, .int .i64 0, .slice none 0 0, .int .i64 5]) := Lib.hid (by simpa using ((Box.new w #[.int .i64 1, .int .i64 0, .slice none 0 0, .int .i64 5] 84).alloc _))
  have B1 : Hid (Box ((w.alloc (.cells #[.int .i64 1, .int .i64 0, .slice none 0 0, .int .i64 5] 84)).alloc (.cells #[.slice none 0 0, .slice (some ⟨w.heap.size, 0, none⟩) 1 1, .int .i64 3, .int .i64 0, .slice none 0 0, .int .i64 0] 57)) (w.heap.size + 1) #[.slice none 0 0, .slice (some ⟨w.heap.size, 0, none⟩) 1 1, .int .i64 3, .int .i64 0, .slice none 0 0, .int .i64 0]) := Lib.hid (by simpa using (Box.new (w.alloc (.cells #[.int .i64 1, .int .i64 0, .slice none 0 0, .int .i64 5] 84)) #[.slice none 0 0, .slice (some ⟨w.heap.size, 0, none⟩) 1 1, .int .i64 3, .int .i64 0, .slice none 0 0, .int .i64 0] 57))
  have HW : Hid (Below w.heap.size w ((w.alloc (.cells #[.int .i64 1, .int .i64 0, .slice none 0 0, .int .i64 5] 84)).alloc (.cells #[.slice none 0 0, .slice (some ⟨w.heap.size, 0, none⟩) 1 1, .int .i64 3, .int .i64 0, .slice none 0 0, .int .i64 0] 57))) := Lib.hid (((Below.refl _ _).alloc (Nat.le_refl _) _).alloc (by simp) _)
  generalize ((w.alloc (.cells #[.int .i64 1, .int .i64 0, .slice none 0 0, .int .i64 5] 84)).alloc (.cells #[.slice none 0 0, .slice (some ⟨w.heap.size, 0, none⟩) 1 1, .int .i64 3, .int .i64 0, .slice none 0 0, .int .i64 0] 57)) = wv at *
  obtain ⟨lB0, cB0, fB0⟩ := B0.out
  obtain ⟨lB1, cB1, fB1⟩ := B1.out
  refine (graphOrder (simplest_val B0.out B1.out)).mono ?_
  rintro e w2 ⟨ov, L, rfl, hL, h0, -, hb⟩
  obtain ⟨O, hO, rfl⟩ := h0 simplest_ok.1
  obtain rfl := order_simplest hO
  rw [simplest_ok.1]
  obtain ⟨a, c, b, o, hov, hc, hm, ha, hx⟩ := hL.parts
  have hx0 := hx 0 (by simp [natI])
  obtain ⟨rfl, hbl⟩ := ha (by simp [natI])
  subst hov
  rw [show (natI [0]).getD 0 0 = 0 from rfl, Nat.add_zero] at hx0
  rw [natI_len] at hc ⊢
  simp only [List.length_cons, List.length_nil, Nat.zero_add] at hc ⊢
  clear h0 hO hL hx ha
  clear lB0 cB0 fB0 lB1 cB1 fB1
  replace B0 := Lib.hid (B0.out.later hb)
  replace B1 := Lib.hid (B1.out.later hb)
  replace HW := Lib.hid (HW.out.trans (hb.mono HW.out.size))
  clear hb
  obtain ⟨lB0, cB0, fB0⟩ := B0.out
  obtain ⟨lB1, cB1, fB1⟩ := B1.out
  go_wp2
  go_ret
  exact ⟨rfl, HW.out⟩

set_option maxHeartbeats 12800000 in
set_option maxRecDepth 100000 in
theorem walkWays {w : World} {v : Value} (f : FuncD) (hv : FuncV w v f) : Calls Try.prog 4 #[v] w fun e w' => e = .returned (.bool true) ∧ Below w.heap.size w w' := by
  have HV := Lib.hid hv
  obtain ⟨ap, cp, ab, cb, rfl, hp, ha, hc, hB⟩ := hv.form
  clear hp ha hc hB hv
  obtain ⟨c, hc⟩ : ∃ c, c = checkF f := ⟨_, rfl⟩
  have HC := Lib.hid hc
  clear hc
  go_enter Try.func4, Try.ntmps4
  go_upto_region 1 with (fail)
  have B1 : Hid (Box (w.alloc (.cells #[.slice ap f.params.length cp, .int .i64 f.arrays, .int .i64 f.cells, .slice ab f.blocks.length cb] 30)) (w.heap.size) #[.slice ap f.params.length cp, .int .i64 f.arrays, .int .i64 f.cells, .slice ab f.blocks.length cb]) := Lib.hid (by simpa using (Box.new w #[.slice ap f.params.length cp, .int .i64 f.arrays, .int .i64 f.cells, .slice ab f.blocks.length cb] 30))
  have HW : Hid (Below w.heap.size w (w.alloc (.cells #[.slice ap f.params.length cp, .int .i64 f.arrays, .int .i64 f.cells, .slice ab f.blocks.length cb] 30))) := Lib.hid ((Below.refl _ _).alloc (Nat.le_refl _) _)
  generalize (w.alloc (.cells #[.slice ap f.params.length cp, .int .i64 f.arrays, .int .i64 f.cells, .slice ab f.blocks.length cb] 30)) = wv at *
  obtain ⟨lB1, cB1, fB1⟩ := B1.out
  go_wp2_with fail
  refine (refCheck (HV.out.below HW.out)).mono ?_
  rintro e w2 ⟨rfl, hb⟩
  rw [← HC.out]
  clear lB1 cB1 fB1
  replace B1 := Lib.hid (B1.out.later hb)
  replace HW := Lib.hid (HW.out.trans (hb.mono HW.out.size))
  clear hb
  obtain ⟨lB1, cB1, fB1⟩ := B1.out
  go_wp2_with fail
  refine (graphPreds (HV.out.below HW.out)).mono ?_
  rintro e w3 ⟨pv, P, rfl, hP, hP0, hP1, hb⟩
  rw [← HC.out] at hP0 hP1 ⊢
  obtain ⟨W3, hW3⟩ : ∃ W3, W3 = w3 := ⟨_, rfl⟩
  have HS3 : Hid (Since W3 w3) := Lib.hid (by rw [hW3]; exact Below.refl _ _)
  have HP : Hid (Lists W3 pv P) := Lib.hid (by rw [hW3]; exact hP)
  have HP0 := Lib.hid hP0
  have HP1 := Lib.hid hP1
  obtain ⟨-, pa, pc, -, -, hpe, -, -, -, -, -, -⟩ := hP.parts
  obtain ⟨pl, hpl⟩ : ∃ pl, pl = P.length := ⟨_, rfl⟩
  rw [← hpl] at hpe
  subst hpe
  have HPL := Lib.hid hpl
  clear hP hP0 hP1 hW3 hpl
  clear lB1 cB1 fB1
  replace B1 := Lib.hid (B1.out.later hb)
  replace HW := Lib.hid (HW.out.trans (hb.mono HW.out.size))
  clear hb
  obtain ⟨lB1, cB1, fB1⟩ := B1.out

  go_wp2_with fail
  refine (graphReach (HV.out.below HW.out)).mono ?_
  rintro e w4 ⟨rv, S, rfl, hS, hS0, hS1, hb⟩
  rw [← HC.out] at hS0 hS1 ⊢
  obtain ⟨W4, hW4⟩ : ∃ W4, W4 = w4 := ⟨_, rfl⟩
  have HS4 : Hid (Since W4 w4) := Lib.hid (by rw [hW4]; exact Below.refl _ _)
  have HS : Hid (Bools W4 rv S) := Lib.hid (by rw [hW4]; exact hS)
  have HR0 := Lib.hid hS0
  have HR1 := Lib.hid hS1
  obtain ⟨ra, rc, hre⟩ := hS.form
  obtain ⟨rl, hrl⟩ : ∃ rl, rl = S.length := ⟨_, rfl⟩
  rw [← hrl] at hre
  subst hre
  have HRL := Lib.hid hrl
  have hrbig : rl ≤ 17592186044416 := by rw [hrl]; exact hS.big
  clear hS hS0 hS1 hW4 hrl
  clear lB1 cB1 fB1
  replace B1 := Lib.hid (B1.out.later hb)
  replace HS3 := Lib.hid (HS3.out.later hb)
  replace HW := Lib.hid (HW.out.trans (hb.mono HW.out.size))
  clear hb
  obtain ⟨lB1, cB1, fB1⟩ := B1.out

  go_wp2_with fail
  refine (graphOrder (HV.out.below HW.out)).mono ?_
  rintro e w5 ⟨ov, L, rfl, hL, hL0, hL1, hb⟩
  rw [← HC.out] at hL0 hL1 ⊢
  obtain ⟨W5, hW5⟩ : ∃ W5, W5 = w5 := ⟨_, rfl⟩
  have HS5 : Hid (Since W5 w5) := Lib.hid (by rw [hW5]; exact Below.refl _ _)
  have HL : Hid (Ints W5 ov L) := Lib.hid (by rw [hW5]; exact hL)
  have HL0 := Lib.hid hL0
  have HL1 := Lib.hid hL1
  obtain ⟨oa, oc, hoe⟩ := hL.form
  obtain ⟨ol, hol⟩ : ∃ ol, ol = L.length := ⟨_, rfl⟩
  rw [← hol] at hoe
  subst hoe
  have HOL := Lib.hid hol
  clear hL hL0 hL1 hW5 hol
  clear lB1 cB1 fB1
  replace B1 := Lib.hid (B1.out.later hb)
  replace HS3 := Lib.hid (HS3.out.later hb)
  replace HS4 := Lib.hid (HS4.out.later hb)
  replace HW := Lib.hid (HW.out.trans (hb.mono HW.out.size))
  clear hb
  obtain ⟨lB1, cB1, fB1⟩ := B1.out

  go_wp2_with fail
  refine awake3.mono ?_
  rintro e w6 ⟨rfl, hb⟩
  clear lB1 cB1 fB1
  replace B1 := Lib.hid (B1.out.later hb)
  replace HS3 := Lib.hid (HS3.out.later hb)
  replace HS4 := Lib.hid (HS4.out.later hb)
  replace HS5 := Lib.hid (HS5.out.later hb)
  replace HW := Lib.hid (HW.out.trans (hb.mono HW.out.size))
  clear hb
  obtain ⟨lB1, cB1, fB1⟩ := B1.out
  have hcc : (c != c) = false := by simp
  cases hc0 : (c == 0)
  · have hc1 : (c != 0) = true := by simp [bne, hc0]
    have hcn : c ≠ 0 := by simpa using hc0
    have e1 : pl = 0 := by rw [HPL.out, HP1.out hcn]; rfl
    have e2 : rl = 0 := by rw [HRL.out, HR1.out hcn]; rfl
    have e3 : ol = 0 := by rw [HOL.out, HL1.out hcn]; rfl
    subst e1 e2 e3
    clear hcn
    go_wp2
    go_ret
    exact ⟨rfl, HW.out⟩
  · have hc1 : (c != 0) = false := by simp [bne, hc0]
    have hcz : c = 0 := by simpa using hc0
    have HF : Hid (formB f = true) := Lib.hid (check_fine (by rw [← HC.out]; exact hcz)).1
    have HPE := Lib.hid (HP0.out hcz)
    have HRE := Lib.hid (HR0.out hcz)
    obtain ⟨O, hO, hLO⟩ := HL0.out hcz
    have HO := Lib.hid hO
    have HLO := Lib.hid hLO
    clear hcz hO hLO HP0 HP1 HR0 HR1 HL0 HL1
    go_wp2_with fail
    refine (refWithout (gone := -1) (HV.out.below HW.out) HF.out).mono ?_
    rintro e w7 ⟨wv2, S2, rfl, hS2, hB2, hb⟩
    obtain rfl := HRE.out.unique hS2
    obtain ⟨W7, hW7⟩ : ∃ W7, W7 = w7 := ⟨_, rfl⟩
    have HS7 : Hid (Since W7 w7) := Lib.hid (by rw [hW7]; exact Below.refl _ _)
    have HBB : Hid (Bools W7 wv2 S) := Lib.hid (by rw [hW7]; exact hB2)
    obtain ⟨xa, xc, hxe⟩ := hB2.form
    rw [← HRL.out] at hxe
    subst hxe
    clear hS2 hB2 hW7
    clear lB1 cB1 fB1
    replace B1 := Lib.hid (B1.out.later hb)
    replace HS3 := Lib.hid (HS3.out.later hb)
    replace HS4 := Lib.hid (HS4.out.later hb)
    replace HS5 := Lib.hid (HS5.out.later hb)
    replace HW := Lib.hid (HW.out.trans (hb.mono HW.out.size))
    clear hb
    obtain ⟨lB1, cB1, fB1⟩ := B1.out

    go_wp2_with fail
    refine (refPreds (HV.out.below HW.out) HF.out).mono ?_
    rintro e w8 ⟨qv, rfl, hQ, hb⟩
    have HQ := Lib.hid hQ
    clear hQ
    clear lB1 cB1 fB1
    replace B1 := Lib.hid (B1.out.later hb)
    replace HS3 := Lib.hid (HS3.out.later hb)
    replace HS4 := Lib.hid (HS4.out.later hb)
    replace HS5 := Lib.hid (HS5.out.later hb)
    replace HS7 := Lib.hid (HS7.out.later hb)
    replace HW := Lib.hid (HW.out.trans (hb.mono HW.out.size))
    clear hb
    obtain ⟨lB1, cB1, fB1⟩ := B1.out
    go_wp2_with fail
    refine (sameLists (by have := HP.out.below HS3.out; rw [HPE.out] at this; exact this) HQ.out).mono ?_
    rintro e w9 ⟨rfl, hb⟩
    rw [show decide (predsF f = predsF f) = true by simp]
    clear lB1 cB1 fB1
    replace B1 := Lib.hid (B1.out.later hb)
    replace HS3 := Lib.hid (HS3.out.later hb)
    replace HS4 := Lib.hid (HS4.out.later hb)
    replace HS5 := Lib.hid (HS5.out.later hb)
    replace HS7 := Lib.hid (HS7.out.later hb)
    replace HW := Lib.hid (HW.out.trans (hb.mono HW.out.size))
    clear hb
    obtain ⟨lB1, cB1, fB1⟩ := B1.out
    go_wp2_with fail
    refine (refOrder (HV.out.below HW.out) HF.out).mono ?_
    rintro e w10 ⟨ov2, O2, rfl, hO2, hL2, hb⟩
    have hOO : O = O2 := by
      obtain ⟨s1, h1⟩ := HO.out
      obtain ⟨s2, h2⟩ := hO2
      have h3 := (h1.det h2).2
      rw [← List.reverse_reverse O, h3, List.reverse_reverse]
    subst hOO
    have HL2 := Lib.hid hL2
    clear hO2 hL2
    clear lB1 cB1 fB1
    replace B1 := Lib.hid (B1.out.later hb)
    replace HS3 := Lib.hid (HS3.out.later hb)
    replace HS4 := Lib.hid (HS4.out.later hb)
    replace HS5 := Lib.hid (HS5.out.later hb)
    replace HS7 := Lib.hid (HS7.out.later hb)
    replace HW := Lib.hid (HW.out.trans (hb.mono HW.out.size))
    clear hb
    obtain ⟨lB1, cB1, fB1⟩ := B1.out
    go_wp2_with fail
    refine (sameB (by have := HL.out.below HS5.out; rw [HLO.out] at this; exact this) HL2.out).mono ?_
    rintro e w11 ⟨rfl, hb⟩
    rw [show decide (natI O = natI O) = true by simp]
    clear lB1 cB1 fB1
    replace B1 := Lib.hid (B1.out.later hb)
    replace HS3 := Lib.hid (HS3.out.later hb)
    replace HS4 := Lib.hid (HS4.out.later hb)
    replace HS5 := Lib.hid (HS5.out.later hb)
    replace HS7 := Lib.hid (HS7.out.later hb)
    replace HW := Lib.hid (HW.out.trans (hb.mono HW.out.size))
    clear hb
    obtain ⟨lB1, cB1, fB1⟩ := B1.out
    obtain ⟨a1, c1, b1, o1, he1, -, hm1, hA1, hX1⟩ := HS.out.parts
    obtain ⟨a2, c2, b2, o2, he2, -, hm2, hA2, hX2⟩ := HBB.out.parts
    rw [← HRL.out] at he1 he2 hA1 hA2
    cases he1
    cases he2
    have HA1 := Lib.hid hA1
    have HA2 := Lib.hid hA2
    have HX1 := Lib.hid hX1
    have HX2 := Lib.hid hX2
    clear hA1 hA2 hX1 hX2
    clear lB1 cB1 fB1
    go_wp2_with fail
    go_loopw [11] (fun i wr => ∃ k : Nat, k ≤ rl ∧ i = .int .i64 k ∧ Below w.heap.size w wr ∧ Since W4 wr ∧ Since W7 wr) (fun i _ => rl - (intOf i).toNat)
    case atStart => exact ⟨0, Nat.zero_le _, rfl, HW.out, HS4.out, HS7.out⟩
    case round =>
      obtain ⟨k, hk, rfl, hW, h4, h7⟩ := hrel
      replace HW := Lib.hid hW
      replace HS4 := Lib.hid h4
      replace HS7 := Lib.hid h7
      clear hW h4 h7
      by_cases hlt : k < rl
      · obtain ⟨rfl, hb1⟩ := HA1.out (by omega)
        obtain ⟨rfl, hb2⟩ := HA2.out (by omega)
        obtain ⟨x, hx⟩ : ∃ x, S[k]? = some x := ⟨_, List.getElem?_eq_getElem (by have := HRL.out; omega)⟩
        have hcx := (Below.cell HS4.out (p := ⟨b1, o1 + k, none⟩) hb1).trans (HX1.out k x hx)
        have hcy := (Below.cell HS7.out (p := ⟨b2, o2 + k, none⟩) hb2).trans (HX2.out k x hx)
        have hxx : (x != x) = false := by simp
        clear hx
        go_wp2
        go_quiet (fail)
        go_wp2
        go_roundw
        case rel => exact ⟨k + 1, hlt, by go_num, below_drewN HW.out _, below_drewN HS4.out _, below_drewN HS7.out _⟩
        case measure => simp [intOf]; omega
      · have hkn : k = rl := by omega
        go_wp2
        go_ret
        exact ⟨rfl, HW.out⟩
end Go.Proofs.Ytefpmjnimnmniaa
