/- What the claim needs, part 37. -/
import Derived.Test.YtjmikinbdclfbaaCD36
import Derived.Test.YtjmikinbdclfbaaCD25
namespace Go.Proofs.Ytjmikinbdclfbaa
set_option linter.unusedSimpArgs false
set_option linter.unusedVariables false
open Go.RowKit
set_option maxHeartbeats 6400000 in
set_option maxRecDepth 100000 in
theorem walkShut {w : World} {v : Value} (f : FuncD) (hv : FuncV w v f) :
    Calls Try.prog 8 #[v] w fun e w' => e = .returned (.bool true) ∧ Below w.heap.size w w' := by
  have HV := Lib.hid hv
  obtain ⟨ap, cp, ab, cb, rfl, -, -, -, hbk⟩ := hv.form
  obtain ⟨nb, hnb⟩ : ∃ nb, nb = f.blocks.length := ⟨_, rfl⟩
  have HNB := Lib.hid hnb
  rw [← hnb] at HV
  rw [← hnb]
  clear hv hbk hnb
  go_enter Try.func8, Try.ntmps8
  go_upto_region 1 with (fail)
  have B1 : Hid (Box (w.alloc (.cells #[.slice ap f.params.length cp, .int .i64 f.arrays, .int .i64 f.cells, .slice ab nb cb] 31)) (w.heap.size) #[.slice ap f.params.length cp, .int .i64 f.arrays, .int .i64 f.cells, .slice ab nb cb]) := Lib.hid (by simpa using (Box.new w #[.slice ap f.params.length cp, .int .i64 f.arrays, .int .i64 f.cells, .slice ab nb cb] 31))
  have HW : Hid (Below w.heap.size w (w.alloc (.cells #[.slice ap f.params.length cp, .int .i64 f.arrays, .int .i64 f.cells, .slice ab nb cb] 31))) := Lib.hid ((Below.refl _ _).alloc (Nat.le_refl _) _)
  generalize (w.alloc (.cells #[.slice ap f.params.length cp, .int .i64 f.arrays, .int .i64 f.cells, .slice ab nb cb] 31)) = wv at *
  obtain ⟨lB1, cB1, fB1⟩ := B1.out
  go_wp2_with fail
  refine (loopsForest (HV.out.below HW.out)).mono ?_
  rintro e w2 ⟨hb, ⟨-, k, hk, rfl⟩ | ⟨hc0, hF, a, c, O, rfl, hO, hL⟩⟩
  · have hq : (k != 0) = true := by simpa using hk
    clear hk
    clear lB1 cB1 fB1
    replace B1 := Lib.hid (B1.out.later hb)
    replace HW := Lib.hid (HW.out.trans (hb.mono HW.out.size))
    clear hb
    obtain ⟨lB1, cB1, fB1⟩ := B1.out
    go_wp2_with fail
    refine awake9.mono ?_
    rintro e w3 ⟨rfl, hb⟩
    clear lB1 cB1 fB1
    replace B1 := Lib.hid (B1.out.later hb)
    replace HW := Lib.hid (HW.out.trans (hb.mono HW.out.size))
    clear hb
    obtain ⟨lB1, cB1, fB1⟩ := B1.out
    go_wp2_with fail
    refine awake9.mono ?_
    rintro e w4 ⟨rfl, hb⟩
    clear lB1 cB1 fB1
    replace B1 := Lib.hid (B1.out.later hb)
    replace HW := Lib.hid (HW.out.trans (hb.mono HW.out.size))
    clear hb
    obtain ⟨lB1, cB1, fB1⟩ := B1.out
    go_wp2
    go_ret
    exact ⟨rfl, HW.out⟩
  · have HC := Lib.hid (And.intro hc0 hF)
    obtain ⟨hn1, hn2⟩ := formB_nb (check_fine hc0).1
    rw [← HNB.out] at hn1 hn2
    obtain ⟨a9, c9, b0, o0, he, hc1, -, -, ha, hx⟩ := loops_parts hL
    injection he with e1 e2 e3
    subst e1
    subst e3
    have hlen := heads_le f
    obtain ⟨nl, hnl⟩ : ∃ nl, nl = (loopsF f).length := ⟨_, rfl⟩
    rw [← hnl] at hlen hc1 ha ⊢
    have HNL := Lib.hid hnl
    have HA := Lib.hid ha
    have HX := Lib.hid hx
    have hnl5 : nl ≤ 512 := by have := HNB.out; omega
    have HWL : Hid (Since w2 w2) := Lib.hid (Below.refl _ _)
    clear hc0 hF hO hL hnl ha hx e2
    clear lB1 cB1 fB1
    replace B1 := Lib.hid (B1.out.later hb)
    replace HW := Lib.hid (HW.out.trans (hb.mono HW.out.size))
    clear hb
    obtain ⟨lB1, cB1, fB1⟩ := B1.out

    go_wp2_with fail
    refine awake9.mono ?_
    rintro e w3 ⟨rfl, hb⟩
    clear lB1 cB1 fB1
    replace B1 := Lib.hid (B1.out.later hb)
    replace HWL := Lib.hid (HWL.out.later hb)
    replace HW := Lib.hid (HW.out.trans (hb.mono HW.out.size))
    clear hb
    obtain ⟨lB1, cB1, fB1⟩ := B1.out
    go_wp2_with fail
    refine (refPreds (HV.out.below HW.out) (check_fine HC.out.1).1).mono ?_
    rintro e w4 ⟨pv, rfl, hP, hb⟩
    obtain ⟨vs, pa, pc, pb, po, rfl, -, -, -, hpa, hpx, hpi⟩ := hP.parts
    have hpl : (predsF f).length = f.blocks.length := predI_len _ _ _
    rw [hpl] at hpa hpx hpi
    rw [hpl]
    obtain ⟨rfl, hpbl⟩ := hpa (by rw [← HNB.out]; omega)
    rw [← HNB.out] at hpx hpi
    rw [← HNB.out]
    have HPX : Hid (∀ j, j < nb → w4.cell? ⟨pb, po + j, none⟩ = some (vs.getD j undef) ∧ Ints w4 (vs.getD j undef) (natI (predN f f.blocks.length 0 j))) := Lib.hid (fun j hj => by
      refine ⟨hpx j hj, ?_⟩
      have h9 := hpi j hj
      have h8 : (predsF f).getD j [] = natI (predN f f.blocks.length 0 j) := by
        unfold predsF
        rw [List.getD_eq_getElem?_getD, predI_at (by rw [← HNB.out]; exact hj)]; rfl
      rwa [h8] at h9)
    clear hP hpa hpx hpi hpl
    clear lB1 cB1 fB1
    replace B1 := Lib.hid (B1.out.later hb)
    replace HWL := Lib.hid (HWL.out.later hb)
    replace HW := Lib.hid (HW.out.trans (hb.mono HW.out.size))
    clear hb
    obtain ⟨lB1, cB1, fB1⟩ := B1.out
    have HW4 := HW
    have HWL4 := HWL

    go_wp2_with fail
    clear HW HWL B1 lB1 cB1 fB1
    go_loopw [6] (fun iv wr => ∃ i : Nat, i ≤ nl ∧ iv = .int .i64 i ∧ Below w4.heap.size w4 wr) (fun iv _ => nl - (intOf iv).toNat)
    case atStart => exact ⟨0, Nat.zero_le _, rfl, Below.refl _ _⟩
    case round =>
      obtain ⟨i, hi, rfl, hb4⟩ := hrel
      have HB4 := Lib.hid hb4
      clear hb4
      by_cases hlt : i < nl
      · obtain ⟨rfl, hb0⟩ := HA.out (by omega)
        obtain ⟨l, hl⟩ : ∃ l, (loopsF f)[i]? = some l := ⟨_, List.getElem?_eq_getElem (by rw [← HNL.out]; exact hlt)⟩
        obtain ⟨a1, a2, a3, c1, c2, c3, hC⟩ := HX.out i l hl
        have HCC := Lib.hid hC
        have HL := Lib.hid hl
        obtain ⟨hnd, hlb, hll⟩ := loopsF_in hl
        have HLB := Lib.hid hlb
        obtain ⟨n1, hn1⟩ : ∃ n1, n1 = l.blocks.length := ⟨_, rfl⟩
        have HN1 := Lib.hid hn1
        have hn15 : n1 ≤ 512 := by have := HNB.out; omega
        clear hl hnd hlb hll hC hn1
        go_wp2_with fail
        go_loopw [7] (fun iv wr => ∃ t : Nat, t ≤ n1 ∧ iv = .int .i64 t ∧ Below w4.heap.size w4 wr) (fun iv _ => n1 - (intOf iv).toNat)
        case atStart => exact ⟨0, Nat.zero_le _, rfl, HB4.out⟩
        case round =>
          obtain ⟨t, ht, rfl, hb4⟩ := hrel
          have HB4 := Lib.hid hb4
          clear hb4
          have HWL : Hid (Below w2.heap.size w2 wr) := Lib.hid (HWL4.out.trans (HB4.out.mono HWL4.out.size))
          obtain ⟨k0, k1, k2, k3, k4, kb, kl, ke⟩ := HCC.out.below HWL.out hb0
          rw [← HN1.out] at k1
          by_cases htt : t < n1
          · obtain ⟨p, hp⟩ : ∃ p, l.blocks[t]? = some p := ⟨_, List.getElem?_eq_getElem (by rw [← HN1.out]; exact htt)⟩
            have hpm := List.mem_of_getElem? hp
            have hpn := HLB.out p hpm
            rw [← HNB.out] at hpn
            have HPM := Lib.hid hpm
            obtain ⟨gb, go_, gc, he, hgl, -, -, hgx⟩ := ints_cells kb (by rw [natI_len, ← HN1.out]; omega)
            rw [natI_len, ← HN1.out] at hgx
            rw [natI_len] at he
            injection he with x1 x2 x3
            subst x1
            subst x3
            have hpc := hgx t htt
            have hgv : (natI l.blocks).getD t 0 = (p : Int) := by unfold natI; rw [List.getD_eq_getElem?_getD, List.getElem?_map, hp]; rfl
            rw [hgv] at hpc
            obtain ⟨hpc2, hpi⟩ := HPX.out p hpn
            obtain ⟨ra, rc, hre⟩ := hpi.form
            rw [hre] at hpc2 hpi
            obtain ⟨lp, hlp⟩ : ∃ lp, lp = (natI (predN f f.blocks.length 0 p)).length := ⟨_, rfl⟩
            rw [← hlp] at hpc2 hpi
            have hpll : lp ≤ 512 := by rw [hlp, natI_len]; have := predN_len f p; have := HNB.out; omega
            have HLP := Lib.hid hlp
            have HPI := Lib.hid hpi
            have HPC := Lib.hid hpc2
            have HKB := Lib.hid kb
            clear hgx hgv hp x2 hpm hre hlp hpi hpc2 kb kl ke
            go_wp2_with fail
            clear k0 k1 k2 k3 k4 hpc
            go_loopw [9] (fun iv wr => ∃ q : Nat, q ≤ lp ∧ iv = .int .i64 q ∧ Below w4.heap.size w4 wr) (fun iv _ => lp - (intOf iv).toNat)
            case atStart => exact ⟨0, Nat.zero_le _, rfl, HB4.out⟩
            case round =>
              obtain ⟨q, hq, rfl, hb4⟩ := hrel
              have HW : Hid (Below w4.heap.size w4 wr) := Lib.hid hb4
              clear hb4
              have HWL : Hid (Below w2.heap.size w2 wr) := Lib.hid (HWL4.out.trans (HW.out.mono HWL4.out.size))
              obtain ⟨k0, k1, k2, k3, k4, kb, kl, ke⟩ := HCC.out.below HWL.out hb0
              rw [← HN1.out] at k1
              have hpc2 := (HW.out.cell (p := ⟨pb, po + p, none⟩) hpbl).trans HPC.out
              by_cases hqt : q < lp
              · obtain ⟨pp, hpp⟩ : ∃ pp, (predN f f.blocks.length 0 p)[q]? = some pp := ⟨_, List.getElem?_eq_getElem (by have h9 := HLP.out; rw [natI_len] at h9; omega)⟩
                obtain ⟨ra2, ro, rc2, he, hrl, -, -, hrx⟩ := ints_cells HPI.out (by rw [← HLP.out]; omega)
                rw [← HLP.out] at he hrx
                injection he with x1 x2 x3
                subst x1
                subst x3
                have hrc := hrx q hqt
                have hgv : (natI (predN f f.blocks.length 0 p)).getD q 0 = (pp : Int) := by unfold natI; rw [List.getD_eq_getElem?_getD, List.getElem?_map, hpp]; rfl
                rw [hgv] at hrc
                have hrw := (HW.out.cell (p := ⟨ra2, ro + q, none⟩) hrl).trans hrc
                have HRC := Lib.hid hrc
                have HPP := Lib.hid (List.mem_of_getElem? hpp)
                clear hrx hgv hpp x2 hrc kl ke
                by_cases hph : p = l.head
                · have hq : ((p : Int) != (l.head : Int)) = false := by simp [hph]
                  clear kb hph
                  go_wp2
                  go_roundw
                  case rel => exact ⟨t + 1, htt, by go_num, HW.out⟩
                  case measure => simp [intOf]; omega
                · have hq : ((p : Int) != (l.head : Int)) = true := by simp; omega
                  have HIN : Hid ((natI l.blocks).contains (pp : Int) = true) := Lib.hid (by rw [natI_has]; have := shut_law HL.out HPM.out hph HPP.out; simpa using this)
                  have HKB2 := Lib.hid kb
                  have HCT : Hid (∀ wg, Below wr.heap.size wr wg → Calls Try.prog 18 #[.slice (some ⟨gb, go_, none⟩) n1 c1, .int .i64 pp] wg fun e w' => e = .returned (.bool true) ∧ Below wg.heap.size wg w') := Lib.hid (fun wg hbg => by
                    have h9 := refHas (x := (pp : Int)) (HKB2.out.below hbg)
                    rw [HIN.out, ← HN1.out] at h9
                    exact h9.mono (fun e w2 ⟨h1, h2⟩ => ⟨h1, h2 ▸ Below.refl _ _⟩))
                  clear kb
                  go_upto_region 15 with (fail)
                  clear k0 k1 k2 k3 k4 hpc2 hrw


                  refine wp_region_grow 14 (fun kz => match kz with | 12 => .const (.bool true) | _ => .plain) (by kernel_rfl) (by kernel_rfl) ?_ (fun ν => ?_)
                  · (intro k; (try dsimp only); split <;> first | exact True.intro | (intro u w1 w2 hu hb; exact hu.below hb))
                  simp only [List.take_succ_cons, List.take_zero, List.drop_succ_cons, List.drop_zero]
                  iterate 12 (refine Grow.val (v := ?_) rfl rfl (fun wg hbg hdg => ?_) ?_; rotate_left; (focus ((obtain ⟨k0, k1, -, -, -, -, -, -⟩ := HCC.out.below (HWL.out.trans (hbg.mono HWL.out.size)) hb0; rw [← HN1.out] at k1; have hpg := ((HW.out.trans (hbg.mono HW.out.size)).cell (p := ⟨pb, po + p, none⟩) hpbl).trans HPC.out; have hrg := ((HW.out.trans (hbg.mono HW.out.size)).cell (p := ⟨ra2, ro + q, none⟩) hrl).trans HRC.out); clear hbg hdg; first | (go_simp; done) | (go_simp; with_reducible rfl))); simp only [Act.put, List.setIfInBounds_toArray, List.set_cons_zero, List.set_cons_succ])
                  refine Grow.call (f := ?_) (args := ?_) rfl (fun wg => ?_) (fun wg hbg hdg => ?_) ?_
                  rotate_left 2
                  focus (first | (go_simp; done) | (go_simp; refine And.intro ?_ ?_ <;> with_reducible rfl) | (go_simp; with_reducible rfl))
                  focus exact Calls.mono (HCT.out wg hbg) (fun e w2 ⟨he, hb2⟩ => ⟨_, he, rfl, hb2⟩)
                  simp only [Act.put, Known.val, List.setIfInBounds_toArray, List.set_cons_zero, List.set_cons_succ]
                  refine Grow.val (v := ?_) rfl rfl (fun wg hbg hdg => ?_) ?_
                  rotate_left
                  focus ((obtain ⟨k0, k1, -, -, -, -, -, -⟩ := HCC.out.below (HWL.out.trans (hbg.mono HWL.out.size)) hb0; rw [← HN1.out] at k1; have hpg := ((HW.out.trans (hbg.mono HW.out.size)).cell (p := ⟨pb, po + p, none⟩) hpbl).trans HPC.out; have hrg := ((HW.out.trans (hbg.mono HW.out.size)).cell (p := ⟨ra2, ro + q, none⟩) hrl).trans HRC.out); clear hbg hdg; first | (go_simp; done) | (go_simp; with_reducible rfl))
                  simp only [Act.put, List.setIfInBounds_toArray, List.set_cons_zero, List.set_cons_succ]
                  intro wg hb hf hap
                  clear hap
                  replace HW := Lib.hid (HW.out.trans (hb.mono HW.out.size))
                  clear hb
                  clear hf
                  go_wp2
                  go_roundw
                  case rel => exact ⟨q + 1, hqt, by go_num, HW.out⟩
                  case measure => simp [intOf]; omega
              · obtain rfl : lp = q := by omega
                clear kb kl ke
                go_wp2
                go_roundw
                case rel => exact ⟨t + 1, htt, by go_num, HW.out⟩
                case measure => simp [intOf]; omega
          · obtain rfl : n1 = t := by omega
            clear kb kl ke
            go_wp2
            go_roundw
            case rel => exact ⟨i + 1, hlt, by go_num, HB4.out⟩
            case measure => simp [intOf]; omega
      · obtain rfl : nl = i := by omega
        go_wp2
        go_ret
        exact ⟨rfl, HW4.out.trans (HB4.out.mono HW4.out.size)⟩
end Go.Proofs.Ytjmikinbdclfbaa
