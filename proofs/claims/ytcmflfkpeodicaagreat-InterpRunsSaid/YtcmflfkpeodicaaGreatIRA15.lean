/- Part 15. -/
import Derived.Test.YtcmflfkpeodicaaGreatIRA14
namespace Go.Proofs.YtcmflfkpeodicaaGreat
set_option linter.all false
open Go.RowKit
set_option maxHeartbeats 12800000 in
set_option maxRecDepth 100000 in
theorem rF {w : World} {f : FuncD} {ap ab : Option Addr} {np cp nb cb : Nat} {ar ce : Int} {r : Bool} (hnp : np = f.params.length) (hnb : nb = f.blocks.length) (har : ar = f.arrays) (hce : ce = f.cells) (hp : Ints w (.slice ap np cp) f.params) (hB : eQ gF 6 w (.slice ab nb cb) f.blocks) (ha64 : In64 f.arrays) (hc64 : In64 f.cells)
    (h1 : np ≤ 16) (h2 : 0 ≤ ar ∧ ar ≤ 8) (h3 : 0 ≤ ce ∧ ce ≤ 64) (h4 : 1 ≤ nb ∧ nb ≤ 512) (h5 : kZ f ≤ 4096) (hr : r = (f.params.all kH && f.blocks.zipIdx.all (fN nb ar ce))) :
    Calls Tryz.prog 118 #[.agg #[.slice ap np cp, .int .i64 ar, .int .i64 ce, .slice ab nb cb]] w fun e w' => e = .returned (.bool r) ∧ Below w.heap.size w w' := by
  have HV : Hid (gG w (.agg #[.slice ap np cp, .int .i64 ar, .int .i64 ce, .slice ab nb cb]) f) := h! ⟨_, _, by rw [har, hce], by rw [hnp] at hp; rw [hnp]; exact hp, ha64, hc64, hB⟩
  have HR := h! hr
  have HNP := h! hnp
  have HNB := h! hnb
  obtain ⟨a1, c1, pb, po, hpe, hpc, hpm, hpa, hpx⟩ := hp.parts
  rw [← hnp] at hpe hpc hpa hpx
  cases hpe
  obtain ⟨a2, c2, bb, bo, hbe, hbc, hbm, hbl, hba, hbx⟩ := eW hB
  rw [← hnb] at hbe hbc hba
  cases hbe
  obtain ⟨rfl, hbw⟩ := hba (by omega)
  have HPA := h! hpa
  have HPX := h! hpx
  have HBW := h! hbw
  have HBX := h! hbx
  have HAR := h! h2
  have HCE := h! h3
  have HN4 := h! h4.2
  have HN16 := h! h1
  have g1 : decide (16 < (np : Int)) = false := by simp; omega
  have g2 : decide (ar < 0) = false := by simp; omega
  have g3 : decide (8 < ar) = false := by simp; omega
  have g4 : decide (ce < 0) = false := by simp; omega
  have g5 : decide (64 < ce) = false := by simp; omega
  have g6 : decide ((nb : Int) < 1) = false := by simp; omega
  have g7 : decide (512 < (nb : Int)) = false := by simp; omega
  have g8 : decide (4096 < kZ f) = false := by simp; omega
  clear hr hnp hnb har hce hp hB ha64 hc64 hpa hpx hbw hba hbx h1 h2 h3 h4 h5 hbl
  go_enter Tryz.func118, Tryz.ntmps118
  go_upto_region 1 with (fail)
  have hA_ := (Below.refl w.heap.size w).alloc (aF _) (.cells #[.slice ap np cp, .int .i64 ar, .int .i64 ce, .slice (some ⟨bb, bo, none⟩) nb cb] 25)
  have HW := h! hA_
  clear hA_
  have B1 := h! (Box.new w #[.slice ap np cp, .int .i64 ar, .int .i64 ce, .slice (some ⟨bb, bo, none⟩) nb cb] 25)
  generalize w.alloc (.cells #[.slice ap np cp, .int .i64 ar, .int .i64 ce, .slice (some ⟨bb, bo, none⟩) nb cb] 25) = wv at *
  obtain ⟨lB1, cB1, fB1⟩ := B1.out
  go_wp2_with fail
  refine (aBC (HV.out.below HW.out) (by rw [← HNB.out]; exact HN4.out)).mono ?_
  rintro e w1 ⟨rfl, hb1⟩
  clear lB1 cB1 fB1
  replace B1 := h! (B1.out.later hb1)
  replace HW := h! (HW.out.trans (hb1.mono HW.out.size))
  clear hb1
  obtain ⟨lB1, cB1, fB1⟩ := B1.out
  go_upto_region 3 with (fail)
  clear g1 g2 g3 g4 g5 g6 g7 g8
  have hnp16 := HN16.out
  have hnb16 := HN4.out
  go_wp2_with fail
  go_loopw [3] (fun i wr => ∃ j : Nat, j ≤ np ∧ i = .int .i64 j ∧ (f.params.take j).all kH = true ∧ Below w.heap.size w wr ∧ Box wr w.heap.size #[.slice ap np cp, .int .i64 ar, .int .i64 ce, .slice (some ⟨bb, bo, none⟩) nb cb]) (fun i _ => np - (intOf i).toNat)
  case atStart => exact ⟨0, aP _, rfl, rfl, HW.out, B1.out⟩
  case round =>
    obtain ⟨j, hj, rfl, hok, hW, hB1⟩ := hrel
    clear lB1 cB1 fB1
    have HOK := h! hok
    replace HW := h! hW
    replace B1 := h! hB1
    clear hok hW hB1
    obtain ⟨lB1, cB1, fB1⟩ := B1.out
    by_cases hlt : j < np
    · obtain ⟨rfl, hbp⟩ := HPA.out (by omega)
      have hx0 := (HW.out.cell hbp).trans (HPX.out j hlt)
      have hjx := eX f.params j (by have := HNP.out; omega)
      have HTS := h! (eP f.params j _ hjx)
      have HM := h! (aG hjx)
      clear hjx
      generalize f.params.getD j 0 = t at *
      cases ht1 : (t != 1) <;> cases ht2 : (t != 2)
      all_goals
        have HT1 := h! ht1
        have HT2 := h! ht2
        go_wp2
        first
          | (go_ret
             have hno : kH t = false := by unfold kH; have e1 := HT1.out; have e2 := HT2.out; simp at e1 e2 ⊢; exact ⟨e1, e2⟩
             exact ⟨by rw [HR.out, show f.params.all kH = false by (rw [bZ]; exact ⟨t, HM.out, by rw [hno]; simp⟩)]; rfl, HW.out⟩)
          | (go_roundw
             case rel => exact ⟨j + 1, hlt, by go_num, by rw [HTS.out, cX, HOK.out]; unfold kH; have e1 := HT1.out; have e2 := HT2.out; simp at e1 e2 ⊢; first | exact .inl e1 | exact .inr e2 | (exact .inl (by omega)), HW.out, B1.out⟩
             case measure => simp [intOf]; omega)
    · obtain rfl : j = np := by omega
      rw [aI (by have := HNP.out; omega)] at HOK
      replace HR : Hid (r = f.blocks.zipIdx.all (fN nb ar ce)) := h! (by rw [HR.out, HOK.out]; rfl)
      go_wp2_with fail
      obtain ⟨np, hnp⟩ : ∃ np, np = j := ⟨_, rfl⟩
      obtain rfl := hnp
      go_loopw [4] (fun i wr => ∃ j : Nat, j ≤ nb ∧ i = .int .i64 j ∧ (f.blocks.zipIdx.take j).all (fN nb ar ce) = true ∧ Below w.heap.size w wr ∧ Box wr w.heap.size #[.slice ap np cp, .int .i64 ar, .int .i64 ce, .slice (some ⟨bb, bo, none⟩) nb cb]) (fun i _ => nb - (intOf i).toNat)
      case atStart => exact ⟨0, aP _, rfl, rfl, HW.out, B1.out⟩
      case round =>
        obtain ⟨j, hj, rfl, hok, hW, hB1⟩ := hrel
        clear lB1 cB1 fB1
        replace HOK := h! hok
        replace HW := h! hW
        replace B1 := h! hB1
        clear hok hW hB1
        generalize wr = wb at *
        obtain ⟨lB1, cB1, fB1⟩ := B1.out
        by_cases hltb : j < nb
        · have hbw := HBW.out
          obtain ⟨x, hjx⟩ : ∃ x, f.blocks[j]? = some x := ⟨_, aB (by have := HNB.out; omega)⟩
          obtain ⟨api, aii, ati, cpi, cii, cti, hC⟩ := HBX.out j x hjx
          have hzx : f.blocks.zipIdx[j]? = some (x, j) := by simp [cN, hjx]
          have HTS := h! (eP f.blocks.zipIdx j _ hzx)
          have HNO : Hid (fN nb ar ce (x, j) = false → r = false) := h! (fun h => by rw [HR.out, bZ]; exact ⟨_, aG hzx, by rw [h]; simp⟩)
          have HX2 : Hid (eQ PhiR 4 w (.slice api x.phis.length cpi) x.phis ∧ eQ kY 4 w (.slice aii x.code.length cii) x.code ∧ Ints w (.slice ati x.term.to.length cti) x.term.to) := h! ⟨hC.phis, hC.code, hC.to⟩
          obtain ⟨k0, k1, k2, k3, k4, k5, q1, q2, q3, q4, q5, q6⟩ := hC.below HW.out hbw
          clear q1 q2 q3 q4 q5 q6 hC hjx hzx
          obtain ⟨pl, hpl⟩ : ∃ pl, pl = x.phis.length := ⟨_, rfl⟩
          obtain ⟨cl, hcl⟩ : ∃ cl, cl = x.code.length := ⟨_, rfl⟩
          obtain ⟨ac, capc, bcd, ocd, hce1, hcc, hcm, hcl16, hca, hcx⟩ := gC HX2.out.2.1
          obtain ⟨apx, capp, bph, oph, hpe1, hppc, hppm, hpl16, hpa2, hpx2⟩ := fV HX2.out.1
          rw [← hpl] at hpe1 hppc hpl16 hpa2 k0
          rw [← hcl] at hce1 hcc hcl16 hca k1
          cases hpe1
          cases hce1
          have HPL := h! hpl
          have HCL := h! hcl
          have HPA2 := h! hpa2
          have HPX2 := h! hpx2
          have HCA2 := h! hca
          have HCX2 := h! hcx
          clear hpl hcl hpa2 hpx2 hca hcx
          go_upto_region 12 with (fail)
          have nB5B1 : wb.heap.size ≠ w.heap.size := fun e => by have := lB1; omega
          have nB1B5 : w.heap.size ≠ wb.heap.size := fun e => nB5B1 e.symm
          clear lB1 cB1 fB1
          have hA_ := (Below.refl wb.heap.size wb).alloc (aF _) (.cells #[.slice api pl cpi, .slice aii cl cii, .int .i64 x.term.op, .int .i64 x.term.val, .slice ati x.term.to.length cti, .int .i64 x.term.n] 50)
          replace B1 := h! (B1.out.later hA_)
          replace HW := h! (HW.out.trans (hA_.mono HW.out.size))
          clear hA_
          have B5 := h! (Box.new wb #[.slice api pl cpi, .slice aii cl cii, .int .i64 x.term.op, .int .i64 x.term.val, .slice ati x.term.to.length cti, .int .i64 x.term.n] 50)
          generalize wb.alloc (.cells #[.slice api pl cpi, .slice aii cl cii, .int .i64 x.term.op, .int .i64 x.term.val, .slice ati x.term.to.length cti, .int .i64 x.term.n] 50) = w5 at *
          obtain ⟨lB1, cB1, fB1⟩ := B1.out
          obtain ⟨lB5, cB5, fB5⟩ := B5.out
          clear k0 k1 k2 k3 k4 k5
          go_wp2_with fail
          go_loopw [6] (fun i wr => ∃ k : Nat, k ≤ pl ∧ (k = 0 ∨ j ≠ 0) ∧ i = .int .i64 k ∧ (x.phis.take k).all (iR nb) = true ∧ Below w.heap.size w wr ∧ Box wr w.heap.size #[.slice ap np cp, .int .i64 ar, .int .i64 ce, .slice (some ⟨bb, bo, none⟩) nb cb] ∧ Box wr wb.heap.size #[.slice api pl cpi, .slice aii cl cii, .int .i64 x.term.op, .int .i64 x.term.val, .slice ati x.term.to.length cti, .int .i64 x.term.n]) (fun i _ => pl - (intOf i).toNat)
          case atStart => exact ⟨0, aP _, .inl rfl, rfl, rfl, HW.out, B1.out, B5.out⟩
          case round =>
            obtain ⟨k, hk, hkj, rfl, hokp, hW, hB1, hB5⟩ := hrel
            clear lB1 cB1 fB1 lB5 cB5 fB5
            have HKJ := h! hkj
            have HOKP := h! hokp
            replace HW := h! hW
            replace B1 := h! hB1
            replace B5 := h! hB5
            clear hokp hW hB1 hB5 hkj
            generalize wr = w7 at *
            obtain ⟨lB1, cB1, fB1⟩ := B1.out
            obtain ⟨lB5, cB5, fB5⟩ := B5.out
            by_cases hlt : k < pl
            · cases hj0 : ((j : Int) == 0)
              · obtain ⟨rfl, hbp⟩ := HPA2.out (by omega)
                obtain ⟨p, hkp⟩ : ∃ p, x.phis[k]? = some p := ⟨_, aB (by have := HPL.out; omega)⟩
                obtain ⟨af, av, cf, cv, hP⟩ := HPX2.out k p hkp
                have HTSP := h! (eP x.phis k p hkp)
                have HMP := h! (aG hkp)
                have HP := h! hP
                have HJ0 := h! hj0
                clear hP hkp
                have HCP : Hid (∀ wg, Below w7.heap.size w7 wg → Calls Tryz.prog 179 #[.agg #[.slice ap np cp, .int .i64 ar, .int .i64 ce, .slice (some ⟨bb, bo, none⟩) nb cb], .agg #[.int .i64 p.id, .int .i64 p.typ, .slice af p.src.length cf, .slice av p.vals.length cv]] wg fun e w' => e = .returned (.bool (iR nb p)) ∧ Below wg.heap.size wg w') :=
                  h! (fun wg hbg => aHF (x := p) (HP.out.src.below (HW.out.trans (hbg.mono HW.out.size))))
                generalize hpo : iR nb p = okp at HCP
                have HPO := h! hpo
                clear hpo
                go_upto_region 15 with (fail)
                refine wp_region_grow 12 (fun kz => match kz with | 9 => .const (.bool okp) | _ => .plain) (by kernel_rfl) (by kernel_rfl) ?_ (fun ν => ?_)
                · (intro k; (try dsimp only); split <;> first | exact True.intro | (intro u w1 w2 hu hb; exact hu.below hb))
                simp only [aK, aR, aM, aT]
                iterate 9 (refine Grow.val (v := ?_) rfl rfl (fun wg hbg hdg => ?_) ?_; rotate_left; (focus ((obtain ⟨lg0, cg0, fg0⟩ := B1.out.later hbg); (obtain ⟨lg1, cg1, fg1⟩ := B5.out.later hbg); (obtain ⟨m0, m1, m2, m3, r1, r2, r3, r4⟩ := HP.out.below (HW.out.trans (hbg.mono HW.out.size)) hbp; clear r1 r2 r3 r4); clear hbg hdg; first | (go_simp; done) | (go_simp; with_reducible rfl))); simp only [Act.put, aA, aC, aD])
                refine Grow.call (f := ?_) (args := ?_) rfl (fun wg => ?_) (fun wg hbg hdg => ?_) ?_
                rotate_left 2
                focus (first | (go_simp; done) | (go_simp; refine And.intro ?_ ?_ <;> with_reducible rfl) | (go_simp; with_reducible rfl))
                focus exact Calls.mono (HCP.out wg hbg) (fun e w2 ⟨he, hb2⟩ => ⟨_, he, rfl, hb2⟩)
                simp only [Act.put, Known.val, aA, aC, aD]
                iterate 2 (refine Grow.val (v := ?_) rfl rfl (fun wg hbg hdg => ?_) ?_; rotate_left; (focus ((obtain ⟨lg0, cg0, fg0⟩ := B1.out.later hbg); (obtain ⟨lg1, cg1, fg1⟩ := B5.out.later hbg); (obtain ⟨m0, m1, m2, m3, r1, r2, r3, r4⟩ := HP.out.below (HW.out.trans (hbg.mono HW.out.size)) hbp; clear r1 r2 r3 r4); clear hbg hdg; first | (go_simp; done) | (go_simp; with_reducible rfl))); simp only [Act.put, aA, aC, aD])
                intro wg hb hf hap
                clear hap
                clear lB1 cB1 fB1 lB5 cB5 fB5
                replace B1 := h! (B1.out.later hb)
                replace B5 := h! (B5.out.later hb)
                replace HW := h! (HW.out.trans (hb.mono HW.out.size))
                clear hb
                obtain ⟨lB1, cB1, fB1⟩ := B1.out
                obtain ⟨lB5, cB5, fB5⟩ := B5.out
                clear hf
                cases okp
                · go_wp2
                  go_ret
                  exact ⟨by rw [HNO.out (by unfold fN; rw [show x.phis.all (iR nb) = false by (rw [bZ]; exact ⟨p, HMP.out, by rw [HPO.out]; simp⟩)]; simp)]; rfl, HW.out⟩
                · go_wp2
                  go_roundw
                  case rel => exact ⟨k + 1, hlt, .inr (by have := HJ0.out; simp at this; omega), by go_num, by rw [HTSP.out, cX, HOKP.out]; simp [HPO.out], HW.out, B1.out, B5.out⟩
                  case measure => simp [intOf]; omega
              · have HJ0 := h! hj0
                go_upto_region 15 with (fail)
                go_quiet (fail)
                go_wp2
                go_ret
                exact ⟨by rw [HNO.out (by unfold fN; have h1 := HJ0.out; have h2 := HPL.out; simp at h1; simp [h1]; intro h3; rw [h3] at h2; simp at h2; omega)]; rfl, eK HW.out _⟩
            · obtain rfl : k = pl := by omega
              rw [aI (by have := HPL.out; omega)] at HOKP
              have HB0 : Hid (fN nb ar ce (x, j) = (x.code.all (fQ ar ce) && gS nb x.term)) := h! (by
                have h1 := HKJ.out
                have h2 := HPL.out
                unfold fN
                rw [HOKP.out]
                have h3 : (!(decide (j = 0) && decide (0 < x.phis.length))) = true := by
                  rcases h1 with h | h
                  · rw [show x.phis.length = 0 by omega]; simp
                  · simp [h]
                rw [h3]; simp)
              go_wp2_with fail
              go_loopw [7] (fun i wr => ∃ q : Nat, q ≤ cl ∧ i = .int .i64 q ∧ (x.code.take q).all (fQ ar ce) = true ∧ Below w.heap.size w wr ∧ Box wr w.heap.size #[.slice ap np cp, .int .i64 ar, .int .i64 ce, .slice (some ⟨bb, bo, none⟩) nb cb] ∧ Box wr wb.heap.size #[.slice api k cpi, .slice aii cl cii, .int .i64 x.term.op, .int .i64 x.term.val, .slice ati x.term.to.length cti, .int .i64 x.term.n]) (fun i _ => cl - (intOf i).toNat)
              case atStart => exact ⟨0, aP _, rfl, rfl, HW.out, B1.out, B5.out⟩
              case round =>
                obtain ⟨q, hq, rfl, hokc, hW, hB1, hB5⟩ := hrel
                clear lB1 cB1 fB1 lB5 cB5 fB5
                have HOKC := h! hokc
                replace HW := h! hW
                replace B1 := h! hB1
                replace B5 := h! hB5
                clear hokc hW hB1 hB5
                generalize wr = w9 at *
                obtain ⟨lB1, cB1, fB1⟩ := B1.out
                obtain ⟨lB5, cB5, fB5⟩ := B5.out
                by_cases hltq : q < cl
                · obtain ⟨rfl, hbp⟩ := HCA2.out (by omega)
                  obtain ⟨y, hky⟩ : ∃ y, x.code[q]? = some y := ⟨_, aB (by have := HCL.out; omega)⟩
                  obtain ⟨aa, ca, hP⟩ := HCX2.out q y hky
                  have HTSC := h! (eP x.code q y hky)
                  have HMC := h! (aG hky)
                  have HP := h! hP
                  clear hP hky
                  have HCP : Hid (∀ wg, Below w9.heap.size w9 wg → Calls Tryz.prog 180 #[.agg #[.slice ap np cp, .int .i64 ar, .int .i64 ce, .slice (some ⟨bb, bo, none⟩) nb cb], .agg #[.int .i64 y.op, .int .i64 y.id, .slice aa y.args.length ca, .int .i64 y.n]] wg fun e w' => e = .returned (.bool (fQ ar ce y)) ∧ Below wg.heap.size wg w') :=
                    h! (fun wg hbg => aCY (x := y) HAR.out HCE.out)
                  generalize hio : fQ ar ce y = okp at HCP
                  have HIO := h! hio
                  clear hio
                  go_upto_region 20 with (fail)
                  refine wp_region_grow 8 (fun kz => match kz with | 6 => .const (.bool okp) | _ => .plain) (by kernel_rfl) (by kernel_rfl) ?_ (fun ν => ?_)
                  · (intro k; (try dsimp only); split <;> first | exact True.intro | (intro u w1 w2 hu hb; exact hu.below hb))
                  simp only [aK, aR, aM, aT]
                  iterate 6 (refine Grow.val (v := ?_) rfl rfl (fun wg hbg hdg => ?_) ?_; rotate_left; (focus ((obtain ⟨lg0, cg0, fg0⟩ := B1.out.later hbg); (obtain ⟨lg1, cg1, fg1⟩ := B5.out.later hbg); (obtain ⟨m0, m1, m2, m3, r1, r2, r3, r4⟩ := HP.out.below (HW.out.trans (hbg.mono HW.out.size)) hbp; clear r1 r2 r3 r4); clear hbg hdg; first | (go_simp; done) | (go_simp; with_reducible rfl))); simp only [Act.put, aA, aC, aD])
                  refine Grow.call (f := ?_) (args := ?_) rfl (fun wg => ?_) (fun wg hbg hdg => ?_) ?_
                  rotate_left 2
                  focus (first | (go_simp; done) | (go_simp; refine And.intro ?_ ?_ <;> with_reducible rfl) | (go_simp; with_reducible rfl))
                  focus exact Calls.mono (HCP.out wg hbg) (fun e w2 ⟨he, hb2⟩ => ⟨_, he, rfl, hb2⟩)
                  simp only [Act.put, Known.val, aA, aC, aD]
                  refine Grow.val (v := ?_) rfl rfl (fun wg hbg hdg => ?_) ?_
                  rotate_left
                  focus ((obtain ⟨lg0, cg0, fg0⟩ := B1.out.later hbg); (obtain ⟨lg1, cg1, fg1⟩ := B5.out.later hbg); (obtain ⟨m0, m1, m2, m3, r1, r2, r3, r4⟩ := HP.out.below (HW.out.trans (hbg.mono HW.out.size)) hbp; clear r1 r2 r3 r4); clear hbg hdg; first | (go_simp; done) | (go_simp; with_reducible rfl))
                  simp only [Act.put, aA, aC, aD]
                  intro wg hb hf hap
                  clear hap
                  clear lB1 cB1 fB1 lB5 cB5 fB5
                  replace B1 := h! (B1.out.later hb)
                  replace B5 := h! (B5.out.later hb)
                  replace HW := h! (HW.out.trans (hb.mono HW.out.size))
                  clear hb
                  obtain ⟨lB1, cB1, fB1⟩ := B1.out
                  obtain ⟨lB5, cB5, fB5⟩ := B5.out
                  clear hf
                  cases okp
                  · go_wp2
                    go_ret
                    exact ⟨by rw [HNO.out (by rw [HB0.out, show x.code.all (fQ ar ce) = false by (rw [bZ]; exact ⟨y, HMC.out, by rw [HIO.out]; simp⟩)]; rfl)]; rfl, HW.out⟩
                  · go_wp2
                    go_roundw
                    case rel => exact ⟨q + 1, hltq, by go_num, by rw [HTSC.out, cX, HOKC.out]; simp [HIO.out], HW.out, B1.out, B5.out⟩
                    case measure => simp [intOf]; omega
                · obtain rfl : q = cl := by omega
                  rw [aI (by have := HCL.out; omega)] at HOKC
                  rw [HOKC.out, cQ] at HB0
                  have HCP := h! (aHW (t := x.term) (at_ := ati) (ct := cti) (ap := ap) (np := np) (cp := cp) (ab := some ⟨bb, bo, none⟩) (nb := nb) (cb := cb) (ar := ar) (ce := ce) (HX2.out.2.2.below HW.out))
                  generalize hen : gS nb x.term = okp at HCP
                  rw [hen] at HB0
                  clear hen
                  go_wp2_with fail
                  refine HCP.out.mono ?_
                  rintro e w3 ⟨rfl, h3⟩
                  clear lB1 cB1 fB1 lB5 cB5 fB5
                  replace B1 := h! (B1.out.later h3)
                  replace B5 := h! (B5.out.later h3)
                  replace HW := h! (HW.out.trans (h3.mono HW.out.size))
                  clear h3
                  obtain ⟨lB1, cB1, fB1⟩ := B1.out
                  obtain ⟨lB5, cB5, fB5⟩ := B5.out
                  cases okp
                  · go_wp2
                    go_ret
                    exact ⟨by rw [HNO.out HB0.out]; rfl, HW.out⟩
                  · go_wp2
                    go_roundw
                    case rel => exact ⟨j + 1, hltb, by go_num, by rw [HTS.out, cX, HOK.out]; simp [HB0.out], HW.out, B1.out⟩
                    case measure => simp [intOf]; omega
        · obtain rfl : j = nb := by omega
          rw [aI (by rw [dU]; have := HNB.out; omega)] at HOK
          go_wp2
          go_ret
          exact ⟨by rw [HR.out, HOK.out]; rfl, HW.out⟩
end Go.Proofs.YtcmflfkpeodicaaGreat
