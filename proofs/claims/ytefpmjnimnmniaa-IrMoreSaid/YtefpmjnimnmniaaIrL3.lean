/- IrMore: the law. -/
import Derived.Test.YtefpmjnimnmniaaIrM
namespace Go.Proofs.Ytefpmjnimnmniaa
set_option linter.unusedSimpArgs false
set_option linter.unusedVariables false
open Go.RowKit Go.Shelf

theorem FuncV.later {W W' : World} {v : Value} {f : FuncD} (h : FuncV W v f) (hb : Below W.heap.size W W') : FuncV W' v f := h.below hb
theorem FuncV.alloc {W : World} {v : Value} {f : FuncD} (h : FuncV W v f) (o : Obj) : FuncV (W.alloc o) v f := h.below ((Below.refl _ _).alloc (Nat.le_refl _) o)
theorem size_nn (f : FuncD) : 0 ≤ sizeF f := by
  unfold sizeF
  induction f.blocks with
  | nil => simp
  | cons b l ih => simp only [List.map_cons, List.sum_cons]; have : 0 ≤ sizeB b := by unfold sizeB; omega
                   omega
set_option maxHeartbeats 6400000 in
set_option maxRecDepth 100000 in
theorem walkMore {w : World} {v : Value} (f : FuncD) {n : Int} (hv : FuncV w v f) (h64 : In64 n) : Calls Try.prog 18 #[v, .int .i64 n] w fun e w' => e = .returned (.bool true) ∧ Below w.heap.size w w' := by
  have HV := Lib.hid hv
  have H64 := Lib.hid h64
  obtain ⟨ap, cp, ab, cb, rfl, hp, ha, hc, hB⟩ := hv.form
  obtain ⟨bcs, hrow, hbr⟩ := hB
  have HROW := Lib.hid hrow
  have HBR := Lib.hid hbr
  obtain ⟨np, hnp⟩ : ∃ np, np = f.params.length := ⟨_, rfl⟩
  obtain ⟨nb, hnb⟩ : ∃ nb, nb = f.blocks.length := ⟨_, rfl⟩
  obtain ⟨ar, har⟩ : ∃ ar, ar = f.arrays := ⟨_, rfl⟩
  obtain ⟨ce, hce⟩ : ∃ ce, ce = f.cells := ⟨_, rfl⟩
  rw [← hnp, ← hnb, ← har, ← hce] at HV ⊢
  rw [← hnb] at HROW
  have HNP := Lib.hid hnp
  have HNB := Lib.hid hnb
  have HAR := Lib.hid har
  have HCE := Lib.hid hce
  clear hp ha hc hv hrow hbr hnp hnb har hce h64
  go_enter Try.func18, Try.ntmps18
  go_upto_region 1 with (fail)
  have B2 : Hid (Box (w.alloc (.cells #[.slice ap np cp, .int .i64 ar, .int .i64 ce, .slice ab nb cb] 30)) (w.heap.size) #[.slice ap np cp, .int .i64 ar, .int .i64 ce, .slice ab nb cb]) := Lib.hid (by simpa using (Box.new w #[.slice ap np cp, .int .i64 ar, .int .i64 ce, .slice ab nb cb] 30))
  have HW : Hid (Below w.heap.size w (w.alloc (.cells #[.slice ap np cp, .int .i64 ar, .int .i64 ce, .slice ab nb cb] 30))) := Lib.hid ((Below.refl _ _).alloc (Nat.le_refl _) _)
  generalize (w.alloc (.cells #[.slice ap np cp, .int .i64 ar, .int .i64 ce, .slice ab nb cb] 30)) = wv at *
  obtain ⟨lB2, cB2, fB2⟩ := B2.out
  go_wp2_with fail
  refine (irSize (HV.out.below HW.out)).mono ?_
  rintro e w2 ⟨rfl, hb2⟩
  clear lB2 cB2 fB2
  replace B2 := Lib.hid (B2.out.later hb2)
  replace HW := Lib.hid (HW.out.trans (hb2.mono HW.out.size))
  clear hb2
  obtain ⟨lB2, cB2, fB2⟩ := B2.out
  go_wp2_with fail
  refine (irIds (HV.out.below HW.out)).mono ?_
  rintro e w3 ⟨ui, L, rfl, hui, hb3, hL⟩
  have HUI := Lib.hid hui
  obtain ⟨ia, ic, rfl⟩ := hui.ints.form
  obtain ⟨nl, hnl⟩ : ∃ nl, nl = L.length := ⟨_, rfl⟩
  rw [← hnl]
  have HNL := Lib.hid hnl
  have HL := Lib.hid hL
  have hll : nl ≤ 17592186044416 := hnl ▸ hui.le
  clear hui hL hnl
  clear lB2 cB2 fB2
  replace B2 := Lib.hid (B2.out.later hb3)
  replace HW := Lib.hid (HW.out.trans (hb3.mono HW.out.size))
  clear hb3
  obtain ⟨lB2, cB2, fB2⟩ := B2.out
  clear lB2 cB2 fB2
  obtain ⟨W3, HW3⟩ : ∃ W3, W3 = w3 := ⟨_, rfl⟩
  have HSI : Hid (Since W3 w3) := Lib.hid (by rw [HW3]; exact Below.refl _ _)
  obtain ⟨w0, hw0⟩ : ∃ w0, w0 = w2 := ⟨_, rfl⟩
  rw [← HW3, ← hw0] at HUI
  clear HW3 hw0

  obtain ⟨lB2, cB2, fB2⟩ := B2.out
  go_wp2_with fail
  refine awake1.mono ?_
  rintro e w4 ⟨rfl, hb4⟩
  clear lB2 cB2 fB2
  replace B2 := Lib.hid (B2.out.later hb4)
  replace HSI := Lib.hid (HSI.out.later hb4)
  replace HW := Lib.hid (HW.out.trans (hb4.mono HW.out.size))
  clear hb4
  obtain ⟨lB2, cB2, fB2⟩ := B2.out
  by_cases hc0 : checkF f = 0
  · have HC0 := Lib.hid hc0
    have HS0 : Hid (sizeA f = sizeF f) := Lib.hid (if_pos hc0)
    clear hc0
    rw [HC0.out, HS0.out]
    obtain ⟨sz, hsz⟩ : ∃ sz, sz = sizeF f := ⟨_, rfl⟩
    rw [← hsz]
    have HSZ := Lib.hid hsz
    clear hsz
    by_cases hs4 : 4000 < sz
    · have h3 : decide ((4000 : Int) < sz) = true := by simp; omega
      go_wp2_with fail
      refine awake1.mono ?_
      rintro e w9 ⟨rfl, hb9⟩
      clear lB2 cB2 fB2
      replace B2 := Lib.hid (B2.out.later hb9)
      replace HSI := Lib.hid (HSI.out.later hb9)
      replace HW := Lib.hid (HW.out.trans (hb9.mono HW.out.size))
      clear hb9
      obtain ⟨lB2, cB2, fB2⟩ := B2.out
      go_wp2
      go_ret
      exact ⟨rfl, HW.out⟩
    · have h3 : decide ((4000 : Int) < sz) = false := by simp; omega
      by_cases hb5 : 500 < nb
      · have h5 : decide ((500 : Int) < (nb : Int)) = true := by simp; omega
        go_wp2_with fail
        refine awake1.mono ?_
        rintro e w9 ⟨rfl, hb9⟩
        clear lB2 cB2 fB2
        replace B2 := Lib.hid (B2.out.later hb9)
        replace HSI := Lib.hid (HSI.out.later hb9)
        replace HW := Lib.hid (HW.out.trans (hb9.mono HW.out.size))
        clear hb9
        obtain ⟨lB2, cB2, fB2⟩ := B2.out
        go_wp2
        go_ret
        exact ⟨rfl, HW.out⟩
      · have h5 : decide ((500 : Int) < (nb : Int)) = false := by simp; omega
        obtain ⟨id, hid⟩ : ∃ id, id = nextId f L := ⟨_, rfl⟩
        have HID := Lib.hid hid
        obtain ⟨hn1, hn2, hn3⟩ := next_new HC0.out HL.out
        rw [← hid] at hn1 hn2 hn3
        have HN1 := Lib.hid hn1
        have HN2 := Lib.hid hn2
        clear hid hn1 hn2
        by_cases hnl0 : 0 < nl
        · obtain ⟨g, cap, A, hgv, hg, hbx, hA⟩ := HUI.out.box (by have := HNL.out; omega)
          cases hgv
          obtain ⟨m, rfl⟩ : ∃ m, nl = m + 1 := ⟨nl - 1, by omega⟩
          obtain ⟨x, hx⟩ : ∃ x, x = L.getD m 0 := ⟨_, rfl⟩
          have HIX : Hid (id = x + 1) := Lib.hid (by
            rw [HID.out, hx]; unfold nextId; rw [if_pos (by have := HNL.out; omega), show L.length - 1 = m by have := HNL.out; omega])
          have hx64 : In64 x := by rw [hx]; exact HUI.out.ints.getD m
          have hcl : w4.cell? ⟨g, m, none⟩ = some (.int .i64 x) := (hbx.later HSI.out).at m (by rw [hA m (by have := HNL.out; omega), hx])
          have hgt : decide ((0 : Int) < ((m + 1 : Nat) : Int)) = true := by simp
          have hix : wrap64 (x + 1) = id := by rw [HIX.out]; unfold wrap64; have := HIX.out; have := HN2.out; omega
          obtain ⟨hx1, hx2⟩ := hx64
          clear hbx hA hx
          go_upto_region 8 with (fail)
          rw [hix]
          clear hcl hgt hix hx1 hx2 HIX
          by_cases hmx : 1048576 ≤ id
          · have h6 : decide ((1048576 : Int) ≤ id) = true := by simp; omega
            go_wp2
            go_ret
            exact ⟨rfl, HW.out⟩
          · have h6 : decide ((1048576 : Int) ≤ id) = false := by simp; omega
            have HCM := Lib.hid (check_more (n := n) HC0.out (by have := HSZ.out; omega) (by have := HNB.out; omega) HN2.out (by omega) HN1.out)
            have HUM := Lib.hid (useN_more HC0.out HCM.out HN1.out)
            have HI64 : Hid (In64 id) := Lib.hid ⟨by have := HN2.out; omega, by omega⟩
            go_upto_region 11 with (fail)
            have hlw4 : w.heap.size < w4.heap.size := lB2
            have nB10B2 : w4.heap.size ≠ w.heap.size := fun e => by have := lB2; omega
            have nB2B10 : w.heap.size ≠ w4.heap.size := fun e => nB10B2 e.symm
            have B2_ : Box (w4.alloc (.cells #[.slice ap np cp, .int .i64 ar, .int .i64 ce, .slice ab nb cb] 30)) (w.heap.size) #[.slice ap np cp, .int .i64 ar, .int .i64 ce, .slice ab nb cb] := by simpa using (B2.out.alloc _)
            have B10_ : Box (w4.alloc (.cells #[.slice ap np cp, .int .i64 ar, .int .i64 ce, .slice ab nb cb] 30)) (w4.heap.size) #[.slice ap np cp, .int .i64 ar, .int .i64 ce, .slice ab nb cb] := by simpa using (Box.new w4 #[.slice ap np cp, .int .i64 ar, .int .i64 ce, .slice ab nb cb] 30)
            have HSI_ := (HSI.out.alloc (.cells #[.slice ap np cp, .int .i64 ar, .int .i64 ce, .slice ab nb cb] 30))
            have HW_ : Below w.heap.size w (w4.alloc (.cells #[.slice ap np cp, .int .i64 ar, .int .i64 ce, .slice ab nb cb] 30)) := (HW.out.alloc (by first | exact Nat.le_refl _ | exact HW.out.size | (simp only [World.size_alloc, World.size_setCell]; have := HW.out.size; omega)) _)
            clear lB2 cB2 fB2
            clear B2 HSI HW
            generalize (w4.alloc (.cells #[.slice ap np cp, .int .i64 ar, .int .i64 ce, .slice ab nb cb] 30)) = w5 at *
            have B2 := Lib.hid B2_
            clear B2_
            have B10 := Lib.hid B10_
            clear B10_
            have HSI := Lib.hid HSI_
            clear HSI_
            have HW := Lib.hid HW_
            clear HW_
            obtain ⟨lB2, cB2, fB2⟩ := B2.out
            obtain ⟨lB10, cB10, fB10⟩ := B10.out
            have HO : Hid (Own (w5.alloc (.cells #[] 57)) w.heap.size [w.heap.size, w4.heap.size] 57 6 (.slice (some ⟨w5.heap.size, 0, none⟩) 0 0) 0 []) := Lib.hid (own_none HW.out.size (by intro b hb; simp at hb; omega) 6)
            have hbA := (Below.refl w5.heap.size w5).alloc (Nat.le_refl _) (.cells #[] 57)
            have HRA := Lib.hid ((HROW.out.below HW.out).below hbA)
            have HC1 := Lib.hid (blocks_cells (by have := HROW.out; rw [HNB.out] at this; exact this) HBR.out)
            have HWA := Lib.hid (HW.out.trans (hbA.mono HW.out.size))
            have HBS : Hid (∀ b ∈ [w.heap.size, w4.heap.size], b < (w5.alloc (.cells #[] 57)).heap.size) := Lib.hid (by intro b hb; simp at hb ⊢; omega)
            have HB2 := Lib.hid (B2.out.later hbA)
            have HB10 := Lib.hid (B10.out.later hbA)
            clear hbA
            go_upto_region 12 with (first
              | (at_builtin; refine wpList_own rfl _ _ 28 57 rfl elBlock rfl rfl HO.out HRA.out HC1.out (by unfold maxLen; omega) (by omega) HWA.out.size HBS.out ?_; intro v2 w6 hO2 hBs2 hB2; have HO2 : Hid (Own w6 w.heap.size [w.heap.size, w4.heap.size] 57 6 v2 nb bcs) := Lib.hid (by simpa using hO2); have HC6 := Lib.hid (hBs2 _ _ (by simp) HB2.out); have HD6 := Lib.hid (hBs2 _ _ (by simp) HB10.out); have HW6 := Lib.hid (HWA.out.trans hB2); clear hO2 hBs2 hB2)
              | (at_builtin; (refine wpList_own rfl _ _ 28 57 rfl elBlock rfl rfl (((HO2.out.more (Nat.le_refl _)).alloc _).alloc _) (Row.of_box (n := 1) (size := 6) (A := #[.slice none 0 0, .slice (some ⟨w6.heap.size, 0, none⟩) 1 1, .int .i64 4, .int .i64 (-1), .slice none 0 0, .int .i64 0]) (by have hbn := Box.new (w6.alloc (.cells #[.int .i64 1, .int .i64 id, .slice none 0 0, .int .i64 n] 84)) #[.slice none 0 0, .slice (some ⟨w6.heap.size, 0, none⟩) 1 1, .int .i64 4, .int .i64 (-1), .slice none 0 0, .int .i64 0] 57; simpa using hbn) rfl (by omega)) (by simp [Value.oneCell']) (by unfold maxLen; omega) (by omega) (by have := HW6.out.size; simp; omega) (by have := HC6.out.lt; have := HD6.out.lt; intro b hb; simp at hb ⊢; omega) ?_; intro v3 w7 hO3 hBs3 hB3); obtain ⟨oa, oc, rfl⟩ := hO3.form; have HO3 := Lib.hid hO3; have HI7 := Lib.hid (hBs3 _ _ (by simp) ((Box.new w6 _ _).alloc _)); have HC7 := Lib.hid (hBs3 _ _ (by simp) ((HC6.out.alloc _).alloc _)); have HD7 := Lib.hid (hBs3 _ _ (by simp) ((HD6.out.alloc _).alloc _)); have HW7 := Lib.hid (((HW6.out.alloc HW6.out.size _).alloc (by have := HW6.out.size; simp; omega) _).trans hB3); clear hO3 hBs3 hB3; obtain ⟨l10, c10, f10⟩ := HD7.out))
            clear lB2 cB2 fB2 lB10 cB10 fB10
            clear l10 c10 f10
            have hi6 := HD6.out.lt
            clear B2 B10 HW HSI HO HRA HC1 HWA HBS HB2 HB10 HO2 HC6 HD6 HW6
            have HW := HW7
            have B2 := HC7
            have B10 := HD7
            have BI := HI7
            clear HW7 HC7 HD7 HI7



            have nIB : w6.heap.size ≠ w4.heap.size := fun e => by omega
            obtain ⟨lB2, cB2, fB2⟩ := B2.out
            obtain ⟨lB10, cB10, fB10⟩ := B10.out
            obtain ⟨lBI, cBI, fBI⟩ := BI.out
            have B2_ : Box (w7.setCell ⟨w4.heap.size, 3, none⟩ (.slice oa (nb + 1) oc)) (w.heap.size) #[.slice ap np cp, .int .i64 ar, .int .i64 ce, .slice ab nb cb] := by simpa using (B2.out.other (p := ⟨w4.heap.size, 3, none⟩) (.slice oa (nb + 1) oc) (by first | assumption | (simp; done) | omega))
            have B10_ : Box (w7.setCell ⟨w4.heap.size, 3, none⟩ (.slice oa (nb + 1) oc)) (w4.heap.size) #[.slice ap np cp, .int .i64 ar, .int .i64 ce, (.slice oa (nb + 1) oc)] := by simpa using (B10.out.set 3 (.slice oa (nb + 1) oc))
            have BI_ : Box (w7.setCell ⟨w4.heap.size, 3, none⟩ (.slice oa (nb + 1) oc)) (w6.heap.size) #[.int .i64 1, .int .i64 id, .slice none 0 0, .int .i64 n] := by simpa using (BI.out.other (p := ⟨w4.heap.size, 3, none⟩) (.slice oa (nb + 1) oc) (by first | assumption | (simp; done) | omega))
            have HO3_ := (HO3.out.other (p := ⟨w4.heap.size, 3, none⟩) (.slice oa (nb + 1) oc) (by simp))
            have HW_ : Below w.heap.size w (w7.setCell ⟨w4.heap.size, 3, none⟩ (.slice oa (nb + 1) oc)) := (HW.out.setCell (p := ⟨w4.heap.size, 3, none⟩) (by first | assumption | omega | (have := HW.out.size; omega) | (simp; omega)) (.slice oa (nb + 1) oc))
            clear lB2 cB2 fB2 lB10 cB10 fB10 lBI cBI fBI
            clear B2 B10 BI HO3 HW
            generalize (w7.setCell ⟨w4.heap.size, 3, none⟩ (.slice oa (nb + 1) oc)) = w8 at *
            have B2 := Lib.hid B2_
            clear B2_
            have B10 := Lib.hid B10_
            clear B10_
            have BI := Lib.hid BI_
            clear BI_
            have HO3 := Lib.hid HO3_
            clear HO3_
            have HW := Lib.hid HW_
            clear HW_
            obtain ⟨lB2, cB2, fB2⟩ := B2.out
            obtain ⟨lB10, cB10, fB10⟩ := B10.out
            obtain ⟨lBI, cBI, fBI⟩ := BI.out
            have HV2 : Hid (FuncV w8 (.agg #[.slice ap np cp, .int .i64 ar, .int .i64 ce, .slice oa (nb + 1) oc]) (moreF f id n)) := Lib.hid (by
              have hvv := HV.out
              have hrl := HROW.out.len
              rw [HAR.out, HCE.out] at hvv ⊢
              exact more_val HNP.out HNB.out hvv HW.out HBR.out hrl HO3.out (by omega) BI.out HI64.out H64.out)
            have HSA : Hid (sizeA (moreF f id n) = sz + 2) := Lib.hid (by unfold sizeA; rw [if_pos HCM.out, size_more, HSZ.out])

            clear HO3
            go_wp2_with fail
            refine (irSize HV2.out).mono ?_
            rintro e w9 ⟨rfl, hb9⟩
            rw [HSA.out, HCM.out]
            clear lB2 cB2 fB2 lB10 cB10 fB10 lBI cBI fBI
            replace B2 := Lib.hid (B2.out.later hb9)
            replace B10 := Lib.hid (B10.out.later hb9)
            replace BI := Lib.hid (BI.out.later hb9)
            replace HV2 := Lib.hid (HV2.out.later hb9)
            replace HW := Lib.hid (HW.out.trans (hb9.mono HW.out.size))
            clear hb9
            obtain ⟨lB2, cB2, fB2⟩ := B2.out
            obtain ⟨lB10, cB10, fB10⟩ := B10.out
            obtain ⟨lBI, cBI, fBI⟩ := BI.out
            go_wp2_with fail
            refine (irUses HV2.out id).mono ?_
            rintro e w10 ⟨rfl, hb10⟩
            rw [HUM.out.1, HUM.out.2]
            clear lB2 cB2 fB2 lB10 cB10 fB10 lBI cBI fBI
            replace B2 := Lib.hid (B2.out.later hb10)
            replace B10 := Lib.hid (B10.out.later hb10)
            replace BI := Lib.hid (BI.out.later hb10)
            replace HV2 := Lib.hid (HV2.out.later hb10)
            replace HW := Lib.hid (HW.out.trans (hb10.mono HW.out.size))
            clear hb10
            obtain ⟨lB2, cB2, fB2⟩ := B2.out
            obtain ⟨lB10, cB10, fB10⟩ := B10.out
            obtain ⟨lBI, cBI, fBI⟩ := BI.out
            have hsz0 : 0 ≤ sz ∧ sz ≤ 4000 := ⟨by rw [HSZ.out]; exact size_nn f, by omega⟩
            go_wp2
            go_ret
            exact ⟨rfl, HW.out⟩
        · obtain rfl : nl = 0 := by omega
          have HIX : Hid (id = (np : Int)) := Lib.hid (by
            rw [HID.out, HNP.out]; unfold nextId; rw [if_neg (by have := HNL.out; omega)])
          go_upto_region 8 with (fail)
          rw [← HIX.out]
          clear HIX
          by_cases hmx : 1048576 ≤ id
          · have h6 : decide ((1048576 : Int) ≤ id) = true := by simp; omega
            go_wp2
            go_ret
            exact ⟨rfl, HW.out⟩
          · have h6 : decide ((1048576 : Int) ≤ id) = false := by simp; omega
            have HCM := Lib.hid (check_more (n := n) HC0.out (by have := HSZ.out; omega) (by have := HNB.out; omega) HN2.out (by omega) HN1.out)
            have HUM := Lib.hid (useN_more HC0.out HCM.out HN1.out)
            have HI64 : Hid (In64 id) := Lib.hid ⟨by have := HN2.out; omega, by omega⟩
            go_upto_region 11 with (fail)
            have hlw4 : w.heap.size < w4.heap.size := lB2
            have nB10B2 : w4.heap.size ≠ w.heap.size := fun e => by have := lB2; omega
            have nB2B10 : w.heap.size ≠ w4.heap.size := fun e => nB10B2 e.symm
            have B2_ : Box (w4.alloc (.cells #[.slice ap np cp, .int .i64 ar, .int .i64 ce, .slice ab nb cb] 30)) (w.heap.size) #[.slice ap np cp, .int .i64 ar, .int .i64 ce, .slice ab nb cb] := by simpa using (B2.out.alloc _)
            have B10_ : Box (w4.alloc (.cells #[.slice ap np cp, .int .i64 ar, .int .i64 ce, .slice ab nb cb] 30)) (w4.heap.size) #[.slice ap np cp, .int .i64 ar, .int .i64 ce, .slice ab nb cb] := by simpa using (Box.new w4 #[.slice ap np cp, .int .i64 ar, .int .i64 ce, .slice ab nb cb] 30)
            have HSI_ := (HSI.out.alloc (.cells #[.slice ap np cp, .int .i64 ar, .int .i64 ce, .slice ab nb cb] 30))
            have HW_ : Below w.heap.size w (w4.alloc (.cells #[.slice ap np cp, .int .i64 ar, .int .i64 ce, .slice ab nb cb] 30)) := (HW.out.alloc (by first | exact Nat.le_refl _ | exact HW.out.size | (simp only [World.size_alloc, World.size_setCell]; have := HW.out.size; omega)) _)
            clear lB2 cB2 fB2
            clear B2 HSI HW
            generalize (w4.alloc (.cells #[.slice ap np cp, .int .i64 ar, .int .i64 ce, .slice ab nb cb] 30)) = w5 at *
            have B2 := Lib.hid B2_
            clear B2_
            have B10 := Lib.hid B10_
            clear B10_
            have HSI := Lib.hid HSI_
            clear HSI_
            have HW := Lib.hid HW_
            clear HW_
            obtain ⟨lB2, cB2, fB2⟩ := B2.out
            obtain ⟨lB10, cB10, fB10⟩ := B10.out
            have HO : Hid (Own (w5.alloc (.cells #[] 57)) w.heap.size [w.heap.size, w4.heap.size] 57 6 (.slice (some ⟨w5.heap.size, 0, none⟩) 0 0) 0 []) := Lib.hid (own_none HW.out.size (by intro b hb; simp at hb; omega) 6)
            have hbA := (Below.refl w5.heap.size w5).alloc (Nat.le_refl _) (.cells #[] 57)
            have HRA := Lib.hid ((HROW.out.below HW.out).below hbA)
            have HC1 := Lib.hid (blocks_cells (by have := HROW.out; rw [HNB.out] at this; exact this) HBR.out)
            have HWA := Lib.hid (HW.out.trans (hbA.mono HW.out.size))
            have HBS : Hid (∀ b ∈ [w.heap.size, w4.heap.size], b < (w5.alloc (.cells #[] 57)).heap.size) := Lib.hid (by intro b hb; simp at hb ⊢; omega)
            have HB2 := Lib.hid (B2.out.later hbA)
            have HB10 := Lib.hid (B10.out.later hbA)
            clear hbA
            go_upto_region 12 with (first
              | (at_builtin; refine wpList_own rfl _ _ 28 57 rfl elBlock rfl rfl HO.out HRA.out HC1.out (by unfold maxLen; omega) (by omega) HWA.out.size HBS.out ?_; intro v2 w6 hO2 hBs2 hB2; have HO2 : Hid (Own w6 w.heap.size [w.heap.size, w4.heap.size] 57 6 v2 nb bcs) := Lib.hid (by simpa using hO2); have HC6 := Lib.hid (hBs2 _ _ (by simp) HB2.out); have HD6 := Lib.hid (hBs2 _ _ (by simp) HB10.out); have HW6 := Lib.hid (HWA.out.trans hB2); clear hO2 hBs2 hB2)
              | (at_builtin; (refine wpList_own rfl _ _ 28 57 rfl elBlock rfl rfl (((HO2.out.more (Nat.le_refl _)).alloc _).alloc _) (Row.of_box (n := 1) (size := 6) (A := #[.slice none 0 0, .slice (some ⟨w6.heap.size, 0, none⟩) 1 1, .int .i64 4, .int .i64 (-1), .slice none 0 0, .int .i64 0]) (by have hbn := Box.new (w6.alloc (.cells #[.int .i64 1, .int .i64 id, .slice none 0 0, .int .i64 n] 84)) #[.slice none 0 0, .slice (some ⟨w6.heap.size, 0, none⟩) 1 1, .int .i64 4, .int .i64 (-1), .slice none 0 0, .int .i64 0] 57; simpa using hbn) rfl (by omega)) (by simp [Value.oneCell']) (by unfold maxLen; omega) (by omega) (by have := HW6.out.size; simp; omega) (by have := HC6.out.lt; have := HD6.out.lt; intro b hb; simp at hb ⊢; omega) ?_; intro v3 w7 hO3 hBs3 hB3); obtain ⟨oa, oc, rfl⟩ := hO3.form; have HO3 := Lib.hid hO3; have HI7 := Lib.hid (hBs3 _ _ (by simp) ((Box.new w6 _ _).alloc _)); have HC7 := Lib.hid (hBs3 _ _ (by simp) ((HC6.out.alloc _).alloc _)); have HD7 := Lib.hid (hBs3 _ _ (by simp) ((HD6.out.alloc _).alloc _)); have HW7 := Lib.hid (((HW6.out.alloc HW6.out.size _).alloc (by have := HW6.out.size; simp; omega) _).trans hB3); clear hO3 hBs3 hB3; obtain ⟨l10, c10, f10⟩ := HD7.out))
            clear lB2 cB2 fB2 lB10 cB10 fB10
            clear l10 c10 f10
            have hi6 := HD6.out.lt
            clear B2 B10 HW HSI HO HRA HC1 HWA HBS HB2 HB10 HO2 HC6 HD6 HW6
            have HW := HW7
            have B2 := HC7
            have B10 := HD7
            have BI := HI7
            clear HW7 HC7 HD7 HI7



            have nIB : w6.heap.size ≠ w4.heap.size := fun e => by omega
            obtain ⟨lB2, cB2, fB2⟩ := B2.out
            obtain ⟨lB10, cB10, fB10⟩ := B10.out
            obtain ⟨lBI, cBI, fBI⟩ := BI.out
            have B2_ : Box (w7.setCell ⟨w4.heap.size, 3, none⟩ (.slice oa (nb + 1) oc)) (w.heap.size) #[.slice ap np cp, .int .i64 ar, .int .i64 ce, .slice ab nb cb] := by simpa using (B2.out.other (p := ⟨w4.heap.size, 3, none⟩) (.slice oa (nb + 1) oc) (by first | assumption | (simp; done) | omega))
            have B10_ : Box (w7.setCell ⟨w4.heap.size, 3, none⟩ (.slice oa (nb + 1) oc)) (w4.heap.size) #[.slice ap np cp, .int .i64 ar, .int .i64 ce, (.slice oa (nb + 1) oc)] := by simpa using (B10.out.set 3 (.slice oa (nb + 1) oc))
            have BI_ : Box (w7.setCell ⟨w4.heap.size, 3, none⟩ (.slice oa (nb + 1) oc)) (w6.heap.size) #[.int .i64 1, .int .i64 id, .slice none 0 0, .int .i64 n] := by simpa using (BI.out.other (p := ⟨w4.heap.size, 3, none⟩) (.slice oa (nb + 1) oc) (by first | assumption | (simp; done) | omega))
            have HO3_ := (HO3.out.other (p := ⟨w4.heap.size, 3, none⟩) (.slice oa (nb + 1) oc) (by simp))
            have HW_ : Below w.heap.size w (w7.setCell ⟨w4.heap.size, 3, none⟩ (.slice oa (nb + 1) oc)) := (HW.out.setCell (p := ⟨w4.heap.size, 3, none⟩) (by first | assumption | omega | (have := HW.out.size; omega) | (simp; omega)) (.slice oa (nb + 1) oc))
            clear lB2 cB2 fB2 lB10 cB10 fB10 lBI cBI fBI
            clear B2 B10 BI HO3 HW
            generalize (w7.setCell ⟨w4.heap.size, 3, none⟩ (.slice oa (nb + 1) oc)) = w8 at *
            have B2 := Lib.hid B2_
            clear B2_
            have B10 := Lib.hid B10_
            clear B10_
            have BI := Lib.hid BI_
            clear BI_
            have HO3 := Lib.hid HO3_
            clear HO3_
            have HW := Lib.hid HW_
            clear HW_
            obtain ⟨lB2, cB2, fB2⟩ := B2.out
            obtain ⟨lB10, cB10, fB10⟩ := B10.out
            obtain ⟨lBI, cBI, fBI⟩ := BI.out
            have HV2 : Hid (FuncV w8 (.agg #[.slice ap np cp, .int .i64 ar, .int .i64 ce, .slice oa (nb + 1) oc]) (moreF f id n)) := Lib.hid (by
              have hvv := HV.out
              have hrl := HROW.out.len
              rw [HAR.out, HCE.out] at hvv ⊢
              exact more_val HNP.out HNB.out hvv HW.out HBR.out hrl HO3.out (by omega) BI.out HI64.out H64.out)
            have HSA : Hid (sizeA (moreF f id n) = sz + 2) := Lib.hid (by unfold sizeA; rw [if_pos HCM.out, size_more, HSZ.out])

            clear HO3
            go_wp2_with fail
            refine (irSize HV2.out).mono ?_
            rintro e w9 ⟨rfl, hb9⟩
            rw [HSA.out, HCM.out]
            clear lB2 cB2 fB2 lB10 cB10 fB10 lBI cBI fBI
            replace B2 := Lib.hid (B2.out.later hb9)
            replace B10 := Lib.hid (B10.out.later hb9)
            replace BI := Lib.hid (BI.out.later hb9)
            replace HV2 := Lib.hid (HV2.out.later hb9)
            replace HW := Lib.hid (HW.out.trans (hb9.mono HW.out.size))
            clear hb9
            obtain ⟨lB2, cB2, fB2⟩ := B2.out
            obtain ⟨lB10, cB10, fB10⟩ := B10.out
            obtain ⟨lBI, cBI, fBI⟩ := BI.out
            go_wp2_with fail
            refine (irUses HV2.out id).mono ?_
            rintro e w10 ⟨rfl, hb10⟩
            rw [HUM.out.1, HUM.out.2]
            clear lB2 cB2 fB2 lB10 cB10 fB10 lBI cBI fBI
            replace B2 := Lib.hid (B2.out.later hb10)
            replace B10 := Lib.hid (B10.out.later hb10)
            replace BI := Lib.hid (BI.out.later hb10)
            replace HV2 := Lib.hid (HV2.out.later hb10)
            replace HW := Lib.hid (HW.out.trans (hb10.mono HW.out.size))
            clear hb10
            obtain ⟨lB2, cB2, fB2⟩ := B2.out
            obtain ⟨lB10, cB10, fB10⟩ := B10.out
            obtain ⟨lBI, cBI, fBI⟩ := BI.out
            have hsz0 : 0 ≤ sz ∧ sz ≤ 4000 := ⟨by rw [HSZ.out]; exact size_nn f, by omega⟩
            go_wp2
            go_ret
            exact ⟨rfl, HW.out⟩
  · have h2 : (checkF f != 0) = true := by simpa using hc0
    go_wp2_with fail
    refine awake1.mono ?_
    rintro e w9 ⟨rfl, hb9⟩
    clear lB2 cB2 fB2
    replace B2 := Lib.hid (B2.out.later hb9)
    replace HSI := Lib.hid (HSI.out.later hb9)
    replace HW := Lib.hid (HW.out.trans (hb9.mono HW.out.size))
    clear hb9
    obtain ⟨lB2, cB2, fB2⟩ := B2.out
    go_wp2
    go_ret
    exact ⟨rfl, HW.out⟩
end Go.Proofs.Ytefpmjnimnmniaa
