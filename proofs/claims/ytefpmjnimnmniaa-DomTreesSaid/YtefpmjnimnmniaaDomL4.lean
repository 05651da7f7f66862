/- DomTrees: the law. -/
import Derived.Test.YtefpmjnimnmniaaDR3
namespace Go.Proofs.Ytefpmjnimnmniaa
set_option linter.unusedSimpArgs false
set_option linter.unusedVariables false
open Go.RowKit

theorem idoms_eq {f : FuncD} {D E : List Int} (h : IsIdom f D) (k : RefDs f f.blocks.length E) : D = E := by
  obtain ⟨O, I, hO, hD, rfl⟩ := h
  refine List.ext_getElem? fun j => ?_
  by_cases hj : j < f.blocks.length
  · obtain ⟨d, hd⟩ : ∃ d, E[j]? = some d := ⟨_, List.getElem?_eq_getElem (by rw [k.1]; exact hj)⟩
    obtain ⟨⟨r1, r2⟩, -⟩ := k.2 j d hd
    rw [hd]
    cases hI : I j with
    | none =>
      rw [encI_none hj hI]
      by_cases h0 : j = 0
      · rw [r1 (.inl h0)]
      · rw [r1 (.inr fun ho => by
          rcases hD.proc ho.1 with h | h
          · exact h0 h
          · rw [hI] at h; cases h)]
    | some p =>
      rw [encI_some hj hI]
      have hw := (hD.tree.par hI).1
      have h0 : j ≠ 0 := fun e => by rw [e, hD.tree.root] at hI; cases hI
      have hpj : p ≠ j := fun e => by
        have := (hD.tree.par hI).2.2.1
        rw [e] at this
        omega
      have hov : OverP f p j := (hD.over hw).1 (.up hI .refl)
      have hpl := hD.low hO hI
      have hpc : Cand f [(j : Int)] j p := ⟨hpl, by omega, fun x hx => by simp at hx; subst hx; exact hov⟩
      rcases r2 h0 (over_refl hw) with ⟨_, hno⟩ | ⟨m, rfl, hm, hall⟩
      · exact absurd hpc (hno p hpl)
      · have h1 := hall p hpl hpc
        have h2 : OverP f m j := hm.2.2 (j : Int) (by simp)
        rcases ((hD.over hw).2 h2).parts with e | ⟨q, hq, hmq⟩
        · exact absurd (by rw [e]) hm.2.1
        · rw [hI] at hq; cases hq
          rw [over_antisymm hO h1 ((hD.over hov.1).1 hmq)]
  · rw [List.getElem?_eq_none (by rw [encI_len]; omega), List.getElem?_eq_none (by rw [k.1]; omega)]
set_option maxHeartbeats 12800000 in
set_option maxRecDepth 100000 in
theorem walkTrees {w : World} {v : Value} (f : FuncD) {a b : Int} (hv : FuncV w v f) (ha64 : In64 a) (hb64 : In64 b) :
    Calls Try.prog 6 #[v, .int .i64 a, .int .i64 b] w fun e w' => e = .returned (.bool true) ∧ Below w.heap.size w w' := by
  have HV := Lib.hid hv
  obtain ⟨ap, cp, ab, cb, rfl, hp, -, -, hB⟩ := hv.form
  have HBG : Hid (checkF f = 0 → f.blocks.length ≤ 512) := Lib.hid (fun h => (formB_nb (check_fine h).1).2)
  have HBP : Hid (checkF f = 0 → 1 ≤ f.blocks.length) := Lib.hid (fun h => (formB_nb (check_fine h).1).1)
  obtain ⟨nb, hnb⟩ : ∃ nb, nb = f.blocks.length := ⟨_, rfl⟩
  rw [← hnb] at HV ⊢
  have HNB := Lib.hid hnb
  clear hp hB hv hnb ha64 hb64
  go_enter Try.func6, Try.ntmps6
  go_upto_region 1 with (fail)
  have B1 : Hid (Box (w.alloc (.cells #[.slice ap f.params.length cp, .int .i64 f.arrays, .int .i64 f.cells, .slice ab nb cb] 30)) (w.heap.size) #[.slice ap f.params.length cp, .int .i64 f.arrays, .int .i64 f.cells, .slice ab nb cb]) := Lib.hid (by simpa using (Box.new w #[.slice ap f.params.length cp, .int .i64 f.arrays, .int .i64 f.cells, .slice ab nb cb] 30))
  have HW : Hid (Below w.heap.size w (w.alloc (.cells #[.slice ap f.params.length cp, .int .i64 f.arrays, .int .i64 f.cells, .slice ab nb cb] 30))) := Lib.hid ((Below.refl _ _).alloc (Nat.le_refl _) _)
  generalize (w.alloc (.cells #[.slice ap f.params.length cp, .int .i64 f.arrays, .int .i64 f.cells, .slice ab nb cb] 30)) = wv at *
  obtain ⟨lB1, cB1, fB1⟩ := B1.out
  go_wp2_with fail
  refine (refCheck (HV.out.below HW.out)).mono ?_
  rintro e w1 ⟨rfl, hb⟩
  clear lB1 cB1 fB1
  replace B1 := Lib.hid (B1.out.later hb)
  replace HW := Lib.hid (HW.out.trans (hb.mono HW.out.size))
  clear hb
  obtain ⟨lB1, cB1, fB1⟩ := B1.out
  go_wp2_with fail
  refine (domIdoms (HV.out.below HW.out)).mono ?_
  rintro e w2 ⟨dv, D, rfl, hD, hI, hE, hb⟩
  obtain ⟨da, dc, rfl⟩ := hD.form
  obtain ⟨dl, hdl⟩ : ∃ dl, dl = D.length := ⟨_, rfl⟩
  rw [← hdl] at hD ⊢
  have HDL := Lib.hid hdl
  have HD := Lib.hid hD
  have HI := Lib.hid hI
  have HE := Lib.hid hE
  clear hD hI hE hdl
  clear lB1 cB1 fB1
  replace B1 := Lib.hid (B1.out.later hb)
  replace HW := Lib.hid (HW.out.trans (hb.mono HW.out.size))
  clear hb
  obtain ⟨lB1, cB1, fB1⟩ := B1.out
  go_wp2_with fail
  refine (domDominates (a := a) (b := b) (HV.out.below HW.out)).mono ?_
  rintro e w3 ⟨r, g, rfl, h1, h2, h3, hb⟩
  have H1 := Lib.hid h1
  have H2 := Lib.hid h2
  have H3 := Lib.hid h3
  replace HD := Lib.hid (HD.out.below hb)
  clear h1 h2 h3
  clear lB1 cB1 fB1
  replace B1 := Lib.hid (B1.out.later hb)
  replace HW := Lib.hid (HW.out.trans (hb.mono HW.out.size))
  clear hb
  obtain ⟨lB1, cB1, fB1⟩ := B1.out
  go_wp2_with fail
  refine awake4.mono ?_
  rintro e w4 ⟨rfl, hb⟩
  replace HD := Lib.hid (HD.out.below hb)
  clear lB1 cB1 fB1
  replace B1 := Lib.hid (B1.out.later hb)
  replace HW := Lib.hid (HW.out.trans (hb.mono HW.out.size))
  clear hb
  obtain ⟨lB1, cB1, fB1⟩ := B1.out
  have hqq : (checkF f != checkF f) = false := by simp
  by_cases hc0 : checkF f = 0
  · have HC0 := Lib.hid hc0
    have hc1 : (checkF f != 0) = false := by simpa using hc0
    have h512 := HBG.out hc0
    have hn1 := HBP.out hc0
    rw [← HNB.out] at h512 hn1
    clear hc0
    go_wp2_with fail
    refine (refIdoms (HV.out.below HW.out) (check_fine HC0.out).1).mono ?_
    rintro e w5 ⟨ev, E, rfl, hEv, hR, hb⟩
    have HEQ := Lib.hid (idoms_eq (HI.out HC0.out) hR)
    have HEV := Lib.hid hEv
    replace HD := Lib.hid (HD.out.below hb)
    clear hEv hR
    clear lB1 cB1 fB1
    replace B1 := Lib.hid (B1.out.later hb)
    replace HW := Lib.hid (HW.out.trans (hb.mono HW.out.size))
    clear hb
    obtain ⟨lB1, cB1, fB1⟩ := B1.out
    go_wp2_with fail
    refine (sameInts HD.out HEV.out).mono ?_
    rintro e w6 ⟨rfl, n6, rfl⟩
    have hb := below_drewN (Below.refl w5.heap.size w5) n6
    generalize w5.drewN n6 = w6 at *
    clear lB1 cB1 fB1
    replace B1 := Lib.hid (B1.out.later hb)
    replace HW := Lib.hid (HW.out.trans (hb.mono HW.out.size))
    clear hb
    obtain ⟨lB1, cB1, fB1⟩ := B1.out
    have hdec : decide (D = E) = true := by simp [HEQ.out]
    by_cases ha0 : a < 0
    · have HNR : Hid (¬ InR f a b) := Lib.hid (fun h => by have := h.1; omega)
      obtain ⟨rfl, rfl⟩ := H2.out HC0.out HNR.out
      go_wp2
      go_ret
      exact ⟨rfl, HW.out⟩
    · by_cases hb0 : b < 0
      · have HNR : Hid (¬ InR f a b) := Lib.hid (fun h => by have := h.2.1; omega)
        obtain ⟨rfl, rfl⟩ := H2.out HC0.out HNR.out
        go_wp2
        go_ret
        exact ⟨rfl, HW.out⟩
      · by_cases han : (nb : Int) ≤ a
        · have HNR : Hid (¬ InR f a b) := Lib.hid (fun h => by have := h.2.2.1; have := HNB.out; omega)
          obtain ⟨rfl, rfl⟩ := H2.out HC0.out HNR.out
          go_wp2
          go_ret
          exact ⟨rfl, HW.out⟩
        · by_cases hbn : (nb : Int) ≤ b
          · have HNR : Hid (¬ InR f a b) := Lib.hid (fun h => by have := h.2.2.2; have := HNB.out; omega)
            obtain ⟨rfl, rfl⟩ := H2.out HC0.out HNR.out
            go_wp2
            go_ret
            exact ⟨rfl, HW.out⟩
          · obtain ⟨an, rfl⟩ : ∃ an : Nat, a = (an : Int) := ⟨a.toNat, by omega⟩
            obtain ⟨bn, rfl⟩ : ∃ bn : Nat, b = (bn : Int) := ⟨b.toNat, by omega⟩
            have hal : an < nb := by omega
            have hbl : bn < nb := by omega
            obtain ⟨rfl, hr⟩ := H3.out HC0.out ⟨by omega, by omega, by rw [← HNB.out]; omega, by rw [← HNB.out]; omega⟩
            rw [Int.toNat_natCast, Int.toNat_natCast] at hr
            have HR := Lib.hid hr
            clear hr
            go_wp2_with fail
            refine (refOver (HV.out.below HW.out) (check_fine HC0.out).1).mono ?_
            rintro e w7 ⟨ov, rfl, hov, hb⟩
            obtain ⟨oc, ob, oo, rfl, hoc, hom, hob, hrows⟩ := hov.parts (by rw [← HNB.out]; omega)
            rw [← HNB.out] at hoc hrows ⊢
            obtain ⟨ra, hra1, hra2, hrax⟩ := hrows an hal
            obtain ⟨y, hy1, hy2⟩ := hrax bn hbl
            obtain rfl : y = r := by rw [Bool.eq_iff_iff, hy2, HR.out]
            have hyy : (y == y) = true := by simp
            clear hov hrows hrax hy2
            clear lB1 cB1 fB1
            replace B1 := Lib.hid (B1.out.later hb)
            replace HW := Lib.hid (HW.out.trans (hb.mono HW.out.size))
            clear hb
            obtain ⟨lB1, cB1, fB1⟩ := B1.out
            go_wp2
            go_ret
            exact ⟨rfl, HW.out⟩
  · obtain ⟨rfl, rfl⟩ := H1.out hc0
    have hd := HE.out hc0
    obtain rfl : dl = 0 := by rw [HDL.out, hd]; rfl
    have hc1 : (checkF f != 0) = true := by simpa using hc0
    have hcc : (checkF f == checkF f) = true := by simp
    clear hc0 hd
    go_wp2
    go_ret
    exact ⟨rfl, HW.out⟩
end Go.Proofs.Ytefpmjnimnmniaa
