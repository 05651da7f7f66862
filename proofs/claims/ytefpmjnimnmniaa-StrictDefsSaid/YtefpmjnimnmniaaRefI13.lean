/- The reference's Ids. -/
import Derived.Test.YtefpmjnimnmniaaRefI12
namespace Go.Proofs.Ytefpmjnimnmniaa
set_option linter.unusedSimpArgs false
set_option linter.unusedVariables false
open Go.RowKit

/-- What Ids hands back. -/
def IdsR (f : FuncD) (w : World) (e : Ending) (w' : World) : Prop := Below w.heap.size w w' ∧ ((idsF f = false ∧ e = .returned (.tuple #[.slice none 0 0, .bool false])) ∨
  (idsF f = true ∧ ∃ u S, e = .returned (.tuple #[u, .bool true]) ∧ New 3 w w' u S ∧ IdsS f.params.length (valsF f) (valsF f).length S))

set_option maxHeartbeats 12800000 in
set_option maxRecDepth 100000 in
theorem refIdsMore {w : World} {v : Value} {f : FuncD} (hv : FuncV w v f) (hsm : (valsF f).length ≤ 8191) (hpos : 0 < (valsF f).length) : Calls Try.prog 55 #[v] w (IdsR f w) := by
  have HV := Lib.hid hv
  obtain ⟨ap, cp, ab, cb, rfl, hp, ha, hc, hB⟩ := hv.form
  have hpl := hp.1.big
  obtain ⟨np, hnp⟩ : ∃ np, np = f.params.length := ⟨_, rfl⟩
  obtain ⟨nb, hnb⟩ : ∃ nb, nb = f.blocks.length := ⟨_, rfl⟩
  obtain ⟨ar, har⟩ : ∃ ar, ar = f.arrays := ⟨_, rfl⟩
  obtain ⟨ce, hce⟩ : ∃ ce, ce = f.cells := ⟨_, rfl⟩
  obtain ⟨n, hn⟩ : ∃ n, n = (valsF f).length := ⟨_, rfl⟩
  rw [← hnp, ← hnb, ← har, ← hce] at HV ⊢
  rw [← hn] at hsm hpos
  rw [← hnp] at hpl
  have HNP := Lib.hid hnp
  have HN := Lib.hid hn
  have HSM := Lib.hid hsm
  clear hp ha hc hB hv hnp hnb har hce hn
  go_enter Try.func55, Try.ntmps55
  go_upto_region 1 with (fail)
  have B1 : Hid (Box (w.alloc (.cells #[.slice ap np cp, .int .i64 ar, .int .i64 ce, .slice ab nb cb] 30)) (w.heap.size) #[.slice ap np cp, .int .i64 ar, .int .i64 ce, .slice ab nb cb]) := Lib.hid (by simpa using (Box.new w #[.slice ap np cp, .int .i64 ar, .int .i64 ce, .slice ab nb cb] 30))
  have HW : Hid (Below w.heap.size w (w.alloc (.cells #[.slice ap np cp, .int .i64 ar, .int .i64 ce, .slice ab nb cb] 30))) := Lib.hid ((Below.refl _ _).alloc (Nat.le_refl _) _)
  generalize (w.alloc (.cells #[.slice ap np cp, .int .i64 ar, .int .i64 ce, .slice ab nb cb] 30)) = wv at *
  obtain ⟨lB1, cB1, fB1⟩ := B1.out
  go_wp2_with fail
  refine (refValues (HV.out.below HW.out) (by rw [← HN.out]; have := HSM.out; omega)).mono ?_
  rintro e w1 ⟨u, rfl, hu, hb1⟩
  rw [← HN.out] at hu
  obtain ⟨g, capV, A, rfl, hg, hcV1, hcV2, hbox, hAx⟩ := own_box hu hpos
  have hlv := lB1
  clear lB1 cB1 fB1
  replace B1 := Lib.hid (B1.out.later hb1)
  replace HW := Lib.hid (HW.out.trans (hb1.mono HW.out.size))
  clear hb1
  obtain ⟨lB1, cB1, fB1⟩ := B1.out
  have BV := Lib.hid hbox
  have HAX := Lib.hid hAx
  have n1 : g ≠ w.heap.size := by omega
  have n2 : w.heap.size ≠ g := fun e => n1 e.symm
  have hgw : w.heap.size < g := by omega
  clear hu hbox hAx hlv hg
  go_wp2_with fail
  have HO : Hid (Own (w1.alloc (.cells #[] 3)) w.heap.size [g, w.heap.size] 3 1 (.slice (some ⟨w1.heap.size, 0, none⟩) 0 0) 0 []) := Lib.hid (own_none HW.out.size (by intro b hb; have := BV.out.lt; simp at hb; omega) 1)
  have hbA := (Below.refl w1.heap.size w1).alloc (Nat.le_refl _) (.cells #[] 3)
  replace BV := Lib.hid (BV.out.later hbA)
  clear lB1 cB1 fB1
  replace B1 := Lib.hid (B1.out.later hbA)
  replace HW := Lib.hid (HW.out.trans (hbA.mono HW.out.size))
  clear hbA
  obtain ⟨lB1, cB1, fB1⟩ := B1.out
  generalize w1.alloc _ = wa at *

  go_loopw [5, 6] (fun u ii wr => ∃ (i : Nat) (S : List Int), i ≤ n ∧ ii = .int .i64 i ∧ Own wr w.heap.size [g, w.heap.size] 3 1 u S.length (S.map (.int .i64)) ∧ IdsS np (valsF f) i S ∧ Below w.heap.size w wr ∧ Box wr w.heap.size #[.slice ap np cp, .int .i64 ar, .int .i64 ce, .slice ab nb cb] ∧ Box wr g A) (fun _ ii _ => n - (intOf ii).toNat)
  case atStart => exact ⟨0, [], Nat.zero_le _, rfl, HO.out, IdsS.start _ _, HW.out, B1.out, BV.out⟩
  case round =>
    obtain ⟨i, S, hi, rfl, hO, hIS, hW, hB1, hBV⟩ := hrel
    clear lB1 cB1 fB1
    obtain ⟨oa, oc, rfl⟩ := hO.form
    replace HO := Lib.hid hO
    have HIS := Lib.hid hIS
    replace HW := Lib.hid hW
    replace B1 := Lib.hid hB1
    replace BV := Lib.hid hBV
    have hSn : S.length ≤ 8191 := by have := hIS.len; have := HSM.out; omega
    clear hO hIS hW hB1 hBV
    generalize wr = wi at *


    obtain ⟨lB1, cB1, fB1⟩ := B1.out
    obtain ⟨lBV, cBV, fBV⟩ := BV.out
    by_cases hlti : i < n
    · obtain ⟨p, hp⟩ : ∃ p, (valsF f)[i]? = some p := ⟨_, List.getElem?_eq_getElem (by have := HN.out; omega)⟩
      obtain ⟨x, t⟩ := p
      have HPX := Lib.hid hp
      have hx0 := HAX.out (i * 2) _ (cellsP_at _ _ _ hp).1
      clear hp
      simp only at hx0
      have hways : (((np : Int) ≤ i) ∧ ¬ ((np : Int) ≤ x ∧ x < 1048576)) ∨ ((i : Int) < np ∨ ((np : Int) ≤ i ∧ (np : Int) ≤ x ∧ x < 1048576)) := by omega
      rcases hways with hbad | hgood
      · have HBAD := Lib.hid hbad
        obtain ⟨h1, h2⟩ := hbad
        have h3 : x < (np : Int) ∨ ((np : Int) ≤ x ∧ 1048576 ≤ x) := by omega
        clear h2
        rcases h3 with h3 | ⟨h3, h4⟩
        all_goals
          go_wp2
          go_ret2
          exact ⟨HW.out, .inl ⟨ids_range HPX.out (by have := HBAD.out.1; have := HNP.out; omega) (by rw [← HNP.out]; exact HBAD.out.2), rfl⟩⟩
      · have HGD : Hid (np ≤ i → (np : Int) ≤ x ∧ x < 1048576) := Lib.hid (by intro h; omega)
        rcases hgood with h1 | ⟨h1, h2, h3⟩
        all_goals
          go_wp2_with fail
          try clear h2
          try clear h3
          clear h1
          go_loopw [8] (fun aa wr => ∃ q : Nat, q ≤ S.length ∧ aa = .int .i64 q ∧ (∀ j y, q ≤ j → S[j]? = some y → x < y) ∧ wr = wi) (fun aa _ => (intOf aa).toNat)
          case atStart => exact ⟨S.length, Nat.le_refl _, by go_num, fun j y h hy => by have := (List.getElem?_eq_some_iff.1 hy).1; omega, rfl⟩
          case round =>
            obtain ⟨q, hq, rfl, hhi, rfl⟩ := hrel
            have HHI := Lib.hid hhi
            clear hhi
            by_cases hq0 : q = 0
            · subst hq0
              have HST : Hid (IdsS np (valsF f) (i + 1) (insAt S 0 x)) := Lib.hid (HIS.out.step HPX.out HGD.out (Nat.zero_le _) (fun j y h => by omega) HHI.out)
              obtain ⟨sl, hsl⟩ : ∃ sl, sl = S.length := ⟨_, rfl⟩
              rw [← hsl] at HO ⊢
              have HSL := Lib.hid hsl
              have hslb : sl + 1 ≤ 8192 := by have := HIS.out.len; omega
              have hkS : 0 ≤ sl := by omega
              clear hsl
              go_wp2_with (at_builtin; refine wpList_own rfl _ _ 22 3 rfl elInt rfl rfl (HO.out.alloc _) (Row.of_box (n := 1) (size := 1) (Box.new _ _ _) rfl (by omega)) (by simp [Value.oneCell']) (by unfold maxLen; omega) (by omega) (by simp; have := HW.out.size; omega) (by intro b hb; simp at hb ⊢; omega) ?_; intro v2 w2 hO2 hBs2 hB2; obtain ⟨g2, cap2, rfl, hg2, hb2, hlt2, hc2, hm2, _, _⟩ := hO2.cells (by omega); have HO2 := Lib.hid hO2; have HBS2 := Lib.hid hBs2; have HB2 := Lib.hid hB2; clear hO2 hBs2 hB2)
              have HGN : Hid (g2 ≠ g ∧ g2 ≠ w.heap.size) := Lib.hid (by simpa using hg2)
              clear hg2
              clear lB1 cB1 fB1 lBV cBV fBV
              replace B1 := Lib.hid (HBS2.out _ _ (by simp) (B1.out.alloc _))
              replace BV := Lib.hid (HBS2.out _ _ (by simp) (BV.out.alloc _))
              replace HW := Lib.hid ((HW.out.alloc (by have := HW.out.size; omega) _).trans HB2.out)
              replace HO : Hid (Own w2 w.heap.size [g, w.heap.size] 3 1 (.slice (some ⟨g2, 0, none⟩) (sl + 1) cap2) (sl + 1) ((insAt S sl 0).map (.int .i64))) := Lib.hid (by rw [HSL.out, insAt_end, List.map_append]; have := HO2.out; rw [HSL.out] at this; exact this)
              clear HB2 HBS2 HO2
              go_loopw [9] (fun kk wr => ∃ (k : Nat) (y : Int), 0 ≤ k ∧ k ≤ sl ∧ kk = .int .i64 k ∧ Own wr w.heap.size [g, w.heap.size] 3 1 (.slice (some ⟨g2, 0, none⟩) (sl + 1) cap2) (sl + 1) ((insAt S k y).map (.int .i64)) ∧ Below w.heap.size w wr ∧ Box wr w.heap.size #[.slice ap np cp, .int .i64 ar, .int .i64 ce, .slice ab nb cb] ∧ Box wr g A) (fun kk _ => (intOf kk).toNat)
              case atStart => exact ⟨sl, 0, hkS, Nat.le_refl _, by go_num, HO.out, HW.out, B1.out, BV.out⟩
              case round =>
                obtain ⟨k, y, hk1, hk2, rfl, hO, hW, hB1, hBV⟩ := hrel
                replace HO := Lib.hid hO
                replace HW := Lib.hid hW
                replace B1 := Lib.hid hB1
                replace BV := Lib.hid hBV
                clear hW hB1 hBV
                obtain ⟨g3, cap3, hgv, _, _, hlt3, _, _, hcell, hfree⟩ := hO.cells (by omega)
                cases hgv
                clear hO
                have HCELL := Lib.hid hcell
                clear hcell
                by_cases hlt : 0 < k
                · obtain ⟨k, rfl⟩ : ∃ k', k = k' + 1 := ⟨k - 1, by omega⟩
                  have hkx := list_at S k (by have := HSL.out; omega)
                  have hc := HCELL.out k (.int .i64 (S.getD k 0)) (by rw [List.getElem?_map, insAt_low S (k + 1) k y _ (by omega) hkx]; rfl)
                  have hc1 := HCELL.out (k + 1) (.int .i64 y) (by rw [List.getElem?_map]; unfold insAt; rw [List.getElem?_append_right (by rw [List.length_take]; have := HSL.out; omega)]; rw [List.length_take, Nat.min_eq_left (by have := HSL.out; omega), Nat.sub_self]; rfl)
                  have HSH := Lib.hid (insAt_shift S k y _ hkx)
                  clear hkx
                  generalize S.getD k 0 = z at *
                  have hf1 := hfree (k + 1)
                  clear hfree
                  go_wp2
                  go_roundw
                  case rel => exact ⟨k, z, by omega, by omega, by go_num, by have h := HO.out.put (i := k + 1) (by omega) (.int .i64 z); rw [← List.map_set, HSH.out] at h; exact h, HW.out.setCell (by omega) _, B1.out.other _ (by have := HGN.out; simp; omega), BV.out.other _ (by have := HGN.out; simp; omega)⟩
                  case measure => simp [intOf]
                · obtain rfl : k = 0 := by omega
                  have hc1 := HCELL.out 0 (.int .i64 y) (by rw [List.getElem?_map]; unfold insAt; rw [List.getElem?_append_right (by rw [List.length_take]; have := HSL.out; omega)]; rw [List.length_take, Nat.min_eq_left (by have := HSL.out; omega), Nat.sub_self]; rfl)
                  have hf1 := hfree 0
                  clear hfree
                  have HSE := Lib.hid (insAt_set S 0 y x (by have := HSL.out; omega))
                  have HLEN := Lib.hid (insAt_length S 0 x (by have := HSL.out; omega))
                  go_wp2
                  go_roundw
                  case rel => exact ⟨i + 1, insAt S 0 x, hlti, by go_num, by rw [HLEN.out, ← HSL.out]; have h := HO.out.put (i := 0) (by omega) (.int .i64 x); rw [← List.map_set, HSE.out] at h; exact h, HST.out, HW.out.setCell (by omega) _, B1.out.other _ (by have := HGN.out; simp; omega), BV.out.other _ (by have := HGN.out; simp; omega)⟩
                  case measure => simp [intOf]; omega
            · obtain ⟨k0, rfl⟩ : ∃ k0, q = k0 + 1 := ⟨q - 1, by omega⟩
              obtain ⟨g4, cap4, hgv4, _, _, _, _, _, hcell4, _⟩ := HO.out.cells (by omega)
              have hkx4 := list_at S k0 (by omega)
              have hc4 := hcell4 k0 (.int .i64 (S.getD k0 0)) (by rw [List.getElem?_map, hkx4]; rfl)
              have HK4 := Lib.hid hkx4
              cases hgv4
              clear hcell4 hkx4 hq0
              generalize S.getD k0 0 = y4 at *
              cases hgt : decide (x < y4)
              · cases heq : (y4 == x)
                · have HST : Hid (IdsS np (valsF f) (i + 1) (insAt S (k0 + 1) x)) := Lib.hid (HIS.out.step HPX.out HGD.out hq (fun j y h hy => by
                    simp at hgt heq
                    by_cases e : j = k0
                    · subst e; have := HK4.out; rw [hy] at this; cases this; omega
                    · have := HIS.out.rise.lt hy HK4.out (by omega); omega) HHI.out)
                  obtain ⟨sl, hsl⟩ : ∃ sl, sl = S.length := ⟨_, rfl⟩
                  rw [← hsl] at HO ⊢
                  have HSL := Lib.hid hsl
                  have hslb : sl + 1 ≤ 8192 := by have := HIS.out.len; omega
                  have hkS : (k0 + 1) ≤ sl := by omega
                  clear hsl
                  go_wp2_with (at_builtin; refine wpList_own rfl _ _ 22 3 rfl elInt rfl rfl (HO.out.alloc _) (Row.of_box (n := 1) (size := 1) (Box.new _ _ _) rfl (by omega)) (by simp [Value.oneCell']) (by unfold maxLen; omega) (by omega) (by simp; have := HW.out.size; omega) (by intro b hb; simp at hb ⊢; omega) ?_; intro v2 w2 hO2 hBs2 hB2; obtain ⟨g2, cap2, rfl, hg2, hb2, hlt2, hc2, hm2, _, _⟩ := hO2.cells (by omega); have HO2 := Lib.hid hO2; have HBS2 := Lib.hid hBs2; have HB2 := Lib.hid hB2; clear hO2 hBs2 hB2)
                  have HGN : Hid (g2 ≠ g ∧ g2 ≠ w.heap.size) := Lib.hid (by simpa using hg2)
                  clear hg2
                  clear lB1 cB1 fB1 lBV cBV fBV
                  replace B1 := Lib.hid (HBS2.out _ _ (by simp) (B1.out.alloc _))
                  replace BV := Lib.hid (HBS2.out _ _ (by simp) (BV.out.alloc _))
                  replace HW := Lib.hid ((HW.out.alloc (by have := HW.out.size; omega) _).trans HB2.out)
                  replace HO : Hid (Own w2 w.heap.size [g, w.heap.size] 3 1 (.slice (some ⟨g2, 0, none⟩) (sl + 1) cap2) (sl + 1) ((insAt S sl 0).map (.int .i64))) := Lib.hid (by rw [HSL.out, insAt_end, List.map_append]; have := HO2.out; rw [HSL.out] at this; exact this)
                  clear HB2 HBS2 HO2
                  go_loopw [9] (fun kk wr => ∃ (k : Nat) (y : Int), (k0 + 1) ≤ k ∧ k ≤ sl ∧ kk = .int .i64 k ∧ Own wr w.heap.size [g, w.heap.size] 3 1 (.slice (some ⟨g2, 0, none⟩) (sl + 1) cap2) (sl + 1) ((insAt S k y).map (.int .i64)) ∧ Below w.heap.size w wr ∧ Box wr w.heap.size #[.slice ap np cp, .int .i64 ar, .int .i64 ce, .slice ab nb cb] ∧ Box wr g A) (fun kk _ => (intOf kk).toNat)
                  case atStart => exact ⟨sl, 0, hkS, Nat.le_refl _, by go_num, HO.out, HW.out, B1.out, BV.out⟩
                  case round =>
                    obtain ⟨k, y, hk1, hk2, rfl, hO, hW, hB1, hBV⟩ := hrel
                    replace HO := Lib.hid hO
                    replace HW := Lib.hid hW
                    replace B1 := Lib.hid hB1
                    replace BV := Lib.hid hBV
                    clear hW hB1 hBV
                    obtain ⟨g3, cap3, hgv, _, _, hlt3, _, _, hcell, hfree⟩ := hO.cells (by omega)
                    cases hgv
                    clear hO
                    have HCELL := Lib.hid hcell
                    clear hcell
                    by_cases hlt : (k0 + 1) < k
                    · obtain ⟨k, rfl⟩ : ∃ k', k = k' + 1 := ⟨k - 1, by omega⟩
                      have hkx := list_at S k (by have := HSL.out; omega)
                      have hc := HCELL.out k (.int .i64 (S.getD k 0)) (by rw [List.getElem?_map, insAt_low S (k + 1) k y _ (by omega) hkx]; rfl)
                      have hc1 := HCELL.out (k + 1) (.int .i64 y) (by rw [List.getElem?_map]; unfold insAt; rw [List.getElem?_append_right (by rw [List.length_take]; have := HSL.out; omega)]; rw [List.length_take, Nat.min_eq_left (by have := HSL.out; omega), Nat.sub_self]; rfl)
                      have HSH := Lib.hid (insAt_shift S k y _ hkx)
                      clear hkx
                      generalize S.getD k 0 = z at *
                      have hf1 := hfree (k + 1)
                      clear hfree
                      go_wp2
                      go_roundw
                      case rel => exact ⟨k, z, by omega, by omega, by go_num, by have h := HO.out.put (i := k + 1) (by omega) (.int .i64 z); rw [← List.map_set, HSH.out] at h; exact h, HW.out.setCell (by omega) _, B1.out.other _ (by have := HGN.out; simp; omega), BV.out.other _ (by have := HGN.out; simp; omega)⟩
                      case measure => simp [intOf]
                    · obtain rfl : k = (k0 + 1) := by omega
                      have hc1 := HCELL.out (k0 + 1) (.int .i64 y) (by rw [List.getElem?_map]; unfold insAt; rw [List.getElem?_append_right (by rw [List.length_take]; have := HSL.out; omega)]; rw [List.length_take, Nat.min_eq_left (by have := HSL.out; omega), Nat.sub_self]; rfl)
                      have hf1 := hfree (k0 + 1)
                      clear hfree
                      have HSE := Lib.hid (insAt_set S (k0 + 1) y x (by have := HSL.out; omega))
                      have HLEN := Lib.hid (insAt_length S (k0 + 1) x (by have := HSL.out; omega))
                      go_wp2
                      go_roundw
                      case rel => exact ⟨i + 1, insAt S (k0 + 1) x, hlti, by go_num, by rw [HLEN.out, ← HSL.out]; have h := HO.out.put (i := (k0 + 1)) (by omega) (.int .i64 x); rw [← List.map_set, HSE.out] at h; exact h, HST.out, HW.out.setCell (by omega) _, B1.out.other _ (by have := HGN.out; simp; omega), BV.out.other _ (by have := HGN.out; simp; omega)⟩
                      case measure => simp [intOf]; omega
                · have HEQ : Hid (y4 = x) := Lib.hid (by simpa using heq)
                  go_wp2
                  go_ret2
                  exact ⟨HW.out, .inl ⟨ids_twice (by rw [← HNP.out]; exact HIS.out) HPX.out (by have := List.mem_of_getElem? HK4.out; rw [HEQ.out] at this; exact this), rfl⟩⟩
              · have HGT := Lib.hid hgt
                go_wp2
                go_roundw
                case rel => exact ⟨k0, by omega, by go_num, fun j y h hy => by
                    have e1 := HGT.out
                    simp at e1
                    by_cases e : j = k0
                    · subst e; have := HK4.out; rw [hy] at this; cases this; omega
                    · exact HHI.out j y (by omega) hy, by trivial⟩
                case measure => simp [intOf]
    · obtain rfl : i = n := by omega
      have HID : Hid (IdsS f.params.length (valsF f) (valsF f).length S) := Lib.hid (by rw [← HNP.out, ← HN.out]; exact HIS.out)
      have HNW : Hid (New 3 w wi (.slice oa S.length oc) S) := Lib.hid ⟨HO.out.row, by omega, HID.out.in64 (by rw [← HNP.out]; omega)⟩
      go_wp2
      go_ret2
      exact ⟨HW.out, .inr ⟨HID.out.done, _, _, rfl, HNW.out, HID.out⟩⟩
end Go.Proofs.Ytefpmjnimnmniaa
