/- Part 15. -/
import Derived.Test.YtagabiidbbhhmaaGreatER14
namespace Go.Proofs.YtagabiidbbhhmaaGreat
set_option linter.all false
open Go.RowKit
set_option maxHeartbeats 12800000 in
set_option maxRecDepth 100000 in
theorem qZ {w : World} {f : FuncD} {ap ab : Option Addr} {np cp nb cb : Nat} {ar ce : Int} {r : Bool} (hnp : np = f.params.length) (hnb : nb = f.blocks.length) (har : ar = f.arrays) (hce : ce = f.cells) (hp : Ints w (.slice ap np cp) f.params) (hB : eX gR 6 w (.slice ab nb cb) f.blocks) (ha64 : In64 f.arrays) (hc64 : In64 f.cells)
    (h1 : np ≤ 16) (h2 : 0 ≤ ar ∧ ar ≤ 8) (h3 : 0 ≤ ce ∧ ce ≤ 64) (h4 : 1 ≤ nb ∧ nb ≤ 512) (h5 : lJ f ≤ 4096) (hr : r = (f.params.all kH && f.blocks.zipIdx.all (gI nb ar ce))) :
    Calls Tryz.prog 69 #[.agg #[.slice ap np cp, .int .i64 ar, .int .i64 ce, .slice ab nb cb]] w fun e w' => e = .returned (.bool r) ∧ Below w.heap.size w w' := by
  have HV : Hid (fU w (.agg #[.slice ap np cp, .int .i64 ar, .int .i64 ce, .slice ab nb cb]) f) := h! ⟨_, _, by rw [har, hce], by rw [hnp] at hp; rw [hnp]; exact hp, ha64, hc64, hB⟩
  have HR := h! hr
  have dg := h! hnp
  have cw := h! hnb
  obtain ⟨a1, c1, pb, po, dk, ea, hpm, cx, cc⟩ := hp.parts
  rw [← hnp] at dk ea cx cc
  cases dk
  obtain ⟨a2, c2, bb, bo, dj, dw, hbm, dy, ci, df⟩ := eY hB
  rw [← hnb] at dj dw ci
  cases dj
  obtain ⟨rfl, bx⟩ := ci (by omega)
  have ec := h! cx
  have ds := h! cc
  have eb := h! bx
  have ee := h! df
  have dz := h! h2
  have dr := h! h3
  have dq := h! h4.2
  have cF := h! h1
  have g1 : decide (16 < (np : Int)) = false := by simp; omega
  have g2 : decide (ar < 0) = false := by simp; omega
  have g3 : decide (8 < ar) = false := by simp; omega
  have g4 : decide (ce < 0) = false := by simp; omega
  have g5 : decide (64 < ce) = false := by simp; omega
  have g6 : decide ((nb : Int) < 1) = false := by simp; omega
  have g7 : decide (512 < (nb : Int)) = false := by simp; omega
  have g8 : decide (4096 < lJ f) = false := by simp; omega
  clear hr hnp hnb har hce hp hB ha64 hc64 cx cc bx ci df h1 h2 h3 h4 h5 dy
  go_enter Tryz.func69, Tryz.ntmps69
  go_upto_region 1 with (fail)
  have bf := (Below.refl w.heap.size w).alloc (aB _) (.cells #[.slice ap np cp, .int .i64 ar, .int .i64 ce, .slice (some ⟨bb, bo, none⟩) nb cb] 25)
  have HW := h! bf
  clear bf
  have B1 := h! (Box.new w #[.slice ap np cp, .int .i64 ar, .int .i64 ce, .slice (some ⟨bb, bo, none⟩) nb cb] 25)
  generalize w.alloc (.cells #[.slice ap np cp, .int .i64 ar, .int .i64 ce, .slice (some ⟨bb, bo, none⟩) nb cb] 25) = wv at *
  obtain ⟨ad, ag, ae⟩ := B1.out
  go_wp2_with fail
  refine (aBX (HV.out.below HW.out) (by rw [← cw.out]; exact dq.out)).mono ?_
  rintro e w1 ⟨rfl, cL⟩
  clear ad ag ae
  replace B1 := h! (B1.out.later cL)
  replace HW := h! (HW.out.trans (cL.mono HW.out.size))
  clear cL
  obtain ⟨ad, ag, ae⟩ := B1.out
  go_upto_region 3 with (fail)
  clear g1 g2 g3 g4 g5 g6 g7 g8
  have hnp16 := cF.out
  have hnb16 := dq.out
  go_wp2_with fail
  go_loopw [3] (fun i wr => ∃ j : Nat, j ≤ np ∧ i = .int .i64 j ∧ (f.params.take j).all kH = true ∧ Below w.heap.size w wr ∧ Box wr w.heap.size #[.slice ap np cp, .int .i64 ar, .int .i64 ce, .slice (some ⟨bb, bo, none⟩) nb cb]) (fun i _ => np - (intOf i).toNat)
  case atStart => exact ⟨0, aJ _, rfl, rfl, HW.out, B1.out⟩
  case round =>
    obtain ⟨j, hj, rfl, bm, hW, ah⟩ := hrel
    clear ad ag ae
    have aw := h! bm
    replace HW := h! hW
    replace B1 := h! ah
    clear bm hW ah
    obtain ⟨ad, ag, ae⟩ := B1.out
    by_cases hlt : j < np
    · obtain ⟨rfl, az⟩ := ec.out (by omega)
      have hx0 := (HW.out.cell az).trans (ds.out j hlt)
      have ao := fK f.params j (by have := dg.out; omega)
      have cy := h! (eT f.params j _ ao)
      have HM := h! (aG ao)
      clear ao
      generalize f.params.getD j 0 = t at *
      cases ht1 : (t != 1) <;> cases ht2 : (t != 2)
      all_goals
        have dh := h! ht1
        have de := h! ht2
        go_wp2
        first
          | (go_ret
             have hno : kH t = false := by unfold kH; have e1 := dh.out; have e2 := de.out; simp at e1 e2 ⊢; exact ⟨e1, e2⟩
             exact ⟨by rw [HR.out, show f.params.all kH = false by (rw [cI]; exact ⟨t, HM.out, by rw [hno]; simp⟩)]; rfl, HW.out⟩)
          | (go_roundw
             case rel => exact ⟨j + 1, hlt, by go_num, by rw [cy.out, dG, aw.out]; unfold kH; have e1 := dh.out; have e2 := de.out; simp at e1 e2 ⊢; first | exact .inl e1 | exact .inr e2 | (exact .inl (by omega)), HW.out, B1.out⟩
             case measure => simp [intOf]; omega)
    · obtain rfl : j = np := by omega
      rw [aH (by have := dg.out; omega)] at aw
      replace HR : Hid (r = f.blocks.zipIdx.all (gI nb ar ce)) := h! (by rw [HR.out, aw.out]; rfl)
      go_wp2_with fail
      obtain ⟨np, hnp⟩ : ∃ np, np = j := ⟨_, rfl⟩
      obtain rfl := hnp
      go_loopw [4] (fun i wr => ∃ j : Nat, j ≤ nb ∧ i = .int .i64 j ∧ (f.blocks.zipIdx.take j).all (gI nb ar ce) = true ∧ Below w.heap.size w wr ∧ Box wr w.heap.size #[.slice ap np cp, .int .i64 ar, .int .i64 ce, .slice (some ⟨bb, bo, none⟩) nb cb]) (fun i _ => nb - (intOf i).toNat)
      case atStart => exact ⟨0, aJ _, rfl, rfl, HW.out, B1.out⟩
      case round =>
        obtain ⟨j, hj, rfl, bm, hW, ah⟩ := hrel
        clear ad ag ae
        replace aw := h! bm
        replace HW := h! hW
        replace B1 := h! ah
        clear bm hW ah
        generalize wr = wb at *
        obtain ⟨ad, ag, ae⟩ := B1.out
        by_cases hltb : j < nb
        · have bx := eb.out
          obtain ⟨x, ao⟩ : ∃ x, f.blocks[j]? = some x := ⟨_, aC (by have := cw.out; omega)⟩
          obtain ⟨bd, bc, ay, bg, be, ba, hC⟩ := ee.out j x ao
          have co : f.blocks.zipIdx[j]? = some (x, j) := by simp [cT, ao]
          have cy := h! (eT f.blocks.zipIdx j _ co)
          have bv : Hid (gI nb ar ce (x, j) = false → r = false) := h! (fun h => by rw [HR.out, cI]; exact ⟨_, aG co, by rw [h]; simp⟩)
          have cG : Hid (eX PhiR 4 w (.slice bd x.phis.length bg) x.phis ∧ eX iB 4 w (.slice bc x.code.length be) x.code ∧ Ints w (.slice ay x.term.to.length ba) x.term.to) := h! ⟨hC.phis, hC.code, hC.to⟩
          obtain ⟨k0, k1, k2, k3, k4, k5, q1, q2, q3, q4, q5, q6⟩ := hC.below HW.out bx
          clear q1 q2 q3 q4 q5 q6 hC ao co
          obtain ⟨pl, db⟩ : ∃ pl, pl = x.phis.length := ⟨_, rfl⟩
          obtain ⟨cl, bO⟩ : ∃ cl, cl = x.code.length := ⟨_, rfl⟩
          obtain ⟨ac, capc, bcd, ocd, br, dx, hcm, bq, cs, dl⟩ := fZ cG.out.2.1
          obtain ⟨apx, capp, bph, oph, bi, cB, hppm, bj, aq, bh⟩ := fQ cG.out.1
          rw [← db] at bi cB bj aq k0
          rw [← bO] at br dx bq cs k1
          cases bi
          cases br
          have bw := h! db
          have dn := h! bO
          have dd := h! aq
          have dc := h! bh
          have cg := h! cs
          have cm := h! dl
          clear db bO aq bh cs dl
          go_upto_region 12 with (fail)
          have bn : wb.heap.size ≠ w.heap.size := fun e => by have := ad; omega
          have nB1B5 : w.heap.size ≠ wb.heap.size := fun e => bn e.symm
          clear ad ag ae
          have bf := (Below.refl wb.heap.size wb).alloc (aB _) (.cells #[.slice bd pl bg, .slice bc cl be, .int .i64 x.term.op, .int .i64 x.term.val, .slice ay x.term.to.length ba, .int .i64 x.term.n] 63)
          replace B1 := h! (B1.out.later bf)
          replace HW := h! (HW.out.trans (bf.mono HW.out.size))
          clear bf
          have B5 := h! (Box.new wb #[.slice bd pl bg, .slice bc cl be, .int .i64 x.term.op, .int .i64 x.term.val, .slice ay x.term.to.length ba, .int .i64 x.term.n] 63)
          generalize wb.alloc (.cells #[.slice bd pl bg, .slice bc cl be, .int .i64 x.term.op, .int .i64 x.term.val, .slice ay x.term.to.length ba, .int .i64 x.term.n] 63) = w5 at *
          obtain ⟨ad, ag, ae⟩ := B1.out
          obtain ⟨ak, ai, aj⟩ := B5.out
          clear k0 k1 k2 k3 k4 k5
          go_wp2_with fail
          go_loopw [6] (fun i wr => ∃ k : Nat, k ≤ pl ∧ (k = 0 ∨ j ≠ 0) ∧ i = .int .i64 k ∧ (x.phis.take k).all (iS nb) = true ∧ Below w.heap.size w wr ∧ Box wr w.heap.size #[.slice ap np cp, .int .i64 ar, .int .i64 ce, .slice (some ⟨bb, bo, none⟩) nb cb] ∧ Box wr wb.heap.size #[.slice bd pl bg, .slice bc cl be, .int .i64 x.term.op, .int .i64 x.term.val, .slice ay x.term.to.length ba, .int .i64 x.term.n]) (fun i _ => pl - (intOf i).toNat)
          case atStart => exact ⟨0, aJ _, .inl rfl, rfl, rfl, HW.out, B1.out, B5.out⟩
          case round =>
            obtain ⟨k, hk, dp, rfl, bk, hW, ah, bp⟩ := hrel
            clear ad ag ae ak ai aj
            have dv := h! dp
            have an := h! bk
            replace HW := h! hW
            replace B1 := h! ah
            replace B5 := h! bp
            clear bk hW ah bp dp
            generalize wr = w7 at *
            obtain ⟨ad, ag, ae⟩ := B1.out
            obtain ⟨ak, ai, aj⟩ := B5.out
            by_cases hlt : k < pl
            · cases hj0 : ((j : Int) == 0)
              · obtain ⟨rfl, az⟩ := dd.out (by omega)
                obtain ⟨p, bz⟩ : ∃ p, x.phis[k]? = some p := ⟨_, aC (by have := bw.out; omega)⟩
                obtain ⟨af, av, cf, cv, hP⟩ := dc.out k p bz
                have cj := h! (eT x.phis k p bz)
                have ed := h! (aG bz)
                have HP := h! hP
                have cq := h! hj0
                clear hP bz
                have al : Hid (∀ wg, Below w7.heap.size w7 wg → Calls Tryz.prog 124 #[.agg #[.slice ap np cp, .int .i64 ar, .int .i64 ce, .slice (some ⟨bb, bo, none⟩) nb cb], .agg #[.int .i64 p.id, .int .i64 p.typ, .slice af p.src.length cf, .slice av p.vals.length cv]] wg fun e w' => e = .returned (.bool (iS nb p)) ∧ Below wg.heap.size wg w') :=
                  h! (fun wg hbg => aF4 (x := p) (HP.out.src.below (HW.out.trans (hbg.mono HW.out.size))))
                generalize hpo : iS nb p = ax at al
                have dm := h! hpo
                clear hpo
                go_upto_region 15 with (fail)
                refine wp_region_grow 12 (fun kz => match kz with | 9 => .const (.bool ax) | _ => .plain) (by kernel_rfl) (by kernel_rfl) ?_ (fun ν => ?_)
                · (intro k; (try dsimp only); split <;> first | exact True.intro | (intro u w1 w2 hu hb; exact hu.below hb))
                simp only [aO, aS, aP, aU]
                iterate 9 (refine Grow.val (v := ?_) rfl rfl (fun wg hbg hdg => ?_) ?_; rotate_left; (focus ((obtain ⟨ch, ck, cd⟩ := B1.out.later hbg); (obtain ⟨da, cr, cM⟩ := B5.out.later hbg); (obtain ⟨m0, m1, m2, m3, r1, r2, r3, r4⟩ := HP.out.below (HW.out.trans (hbg.mono HW.out.size)) az; clear r1 r2 r3 r4); clear hbg hdg; first | (go_simp; done) | (go_simp; with_reducible rfl))); simp only [Act.put, aA, aD, aE])
                refine Grow.call (f := ?_) (args := ?_) rfl (fun wg => ?_) (fun wg hbg hdg => ?_) ?_
                rotate_left 2
                focus (first | (go_simp; done) | (go_simp; refine And.intro ?_ ?_ <;> with_reducible rfl) | (go_simp; with_reducible rfl))
                focus exact Calls.mono (al.out wg hbg) (fun e w2 ⟨he, hb2⟩ => ⟨_, he, rfl, hb2⟩)
                simp only [Act.put, Known.val, aA, aD, aE]
                iterate 2 (refine Grow.val (v := ?_) rfl rfl (fun wg hbg hdg => ?_) ?_; rotate_left; (focus ((obtain ⟨ch, ck, cd⟩ := B1.out.later hbg); (obtain ⟨da, cr, cM⟩ := B5.out.later hbg); (obtain ⟨m0, m1, m2, m3, r1, r2, r3, r4⟩ := HP.out.below (HW.out.trans (hbg.mono HW.out.size)) az; clear r1 r2 r3 r4); clear hbg hdg; first | (go_simp; done) | (go_simp; with_reducible rfl))); simp only [Act.put, aA, aD, aE])
                intro wg hb hf cz
                clear cz
                clear ad ag ae ak ai aj
                replace B1 := h! (B1.out.later hb)
                replace B5 := h! (B5.out.later hb)
                replace HW := h! (HW.out.trans (hb.mono HW.out.size))
                clear hb
                obtain ⟨ad, ag, ae⟩ := B1.out
                obtain ⟨ak, ai, aj⟩ := B5.out
                clear hf
                cases ax
                · go_wp2
                  go_ret
                  exact ⟨by rw [bv.out (by unfold gI; rw [show x.phis.all (iS nb) = false by (rw [cI]; exact ⟨p, ed.out, by rw [dm.out]; simp⟩)]; simp)]; rfl, HW.out⟩
                · go_wp2
                  go_roundw
                  case rel => exact ⟨k + 1, hlt, .inr (by have := cq.out; simp at this; omega), by go_num, by rw [cj.out, dG, an.out]; simp [dm.out], HW.out, B1.out, B5.out⟩
                  case measure => simp [intOf]; omega
              · have cq := h! hj0
                go_upto_region 15 with (fail)
                go_quiet (fail)
                go_wp2
                go_ret
                exact ⟨by rw [bv.out (by unfold gI; have h1 := cq.out; have h2 := bw.out; simp at h1; simp [h1]; intro h3; rw [h3] at h2; simp at h2; omega)]; rfl, eW HW.out _⟩
            · obtain rfl : k = pl := by omega
              rw [aH (by have := bw.out; omega)] at an
              have bs : Hid (gI nb ar ce (x, j) = (x.code.all (gM ar ce) && iT nb x.term)) := h! (by
                have h1 := dv.out
                have h2 := bw.out
                unfold gI
                rw [an.out]
                have h3 : (!(decide (j = 0) && decide (0 < x.phis.length))) = true := by
                  rcases h1 with h | h
                  · rw [show x.phis.length = 0 by omega]; simp
                  · simp [h]
                rw [h3]; simp)
              go_wp2_with fail
              go_loopw [7] (fun i wr => ∃ q : Nat, q ≤ cl ∧ i = .int .i64 q ∧ (x.code.take q).all (gM ar ce) = true ∧ Below w.heap.size w wr ∧ Box wr w.heap.size #[.slice ap np cp, .int .i64 ar, .int .i64 ce, .slice (some ⟨bb, bo, none⟩) nb cb] ∧ Box wr wb.heap.size #[.slice bd k bg, .slice bc cl be, .int .i64 x.term.op, .int .i64 x.term.val, .slice ay x.term.to.length ba, .int .i64 x.term.n]) (fun i _ => cl - (intOf i).toNat)
              case atStart => exact ⟨0, aJ _, rfl, rfl, HW.out, B1.out, B5.out⟩
              case round =>
                obtain ⟨q, hq, rfl, bl, hW, ah, bp⟩ := hrel
                clear ad ag ae ak ai aj
                have am := h! bl
                replace HW := h! hW
                replace B1 := h! ah
                replace B5 := h! bp
                clear bl hW ah bp
                generalize wr = w9 at *
                obtain ⟨ad, ag, ae⟩ := B1.out
                obtain ⟨ak, ai, aj⟩ := B5.out
                by_cases hltq : q < cl
                · obtain ⟨rfl, az⟩ := cg.out (by omega)
                  obtain ⟨y, bt⟩ : ∃ y, x.code[q]? = some y := ⟨_, aC (by have := dn.out; omega)⟩
                  obtain ⟨aa, ca, hP⟩ := cm.out q y bt
                  have cn := h! (eT x.code q y bt)
                  have dt := h! (aG bt)
                  have HP := h! hP
                  clear hP bt
                  have al : Hid (∀ wg, Below w9.heap.size w9 wg → Calls Tryz.prog 125 #[.agg #[.slice ap np cp, .int .i64 ar, .int .i64 ce, .slice (some ⟨bb, bo, none⟩) nb cb], .agg #[.int .i64 y.op, .int .i64 y.id, .slice aa y.args.length ca, .int .i64 y.n]] wg fun e w' => e = .returned (.bool (gM ar ce y)) ∧ Below wg.heap.size wg w') :=
                    h! (fun wg hbg => aDL (x := y) dz.out dr.out)
                  generalize hio : gM ar ce y = ax at al
                  have di := h! hio
                  clear hio
                  go_upto_region 20 with (fail)
                  refine wp_region_grow 8 (fun kz => match kz with | 6 => .const (.bool ax) | _ => .plain) (by kernel_rfl) (by kernel_rfl) ?_ (fun ν => ?_)
                  · (intro k; (try dsimp only); split <;> first | exact True.intro | (intro u w1 w2 hu hb; exact hu.below hb))
                  simp only [aO, aS, aP, aU]
                  iterate 6 (refine Grow.val (v := ?_) rfl rfl (fun wg hbg hdg => ?_) ?_; rotate_left; (focus ((obtain ⟨ch, ck, cd⟩ := B1.out.later hbg); (obtain ⟨da, cr, cM⟩ := B5.out.later hbg); (obtain ⟨m0, m1, m2, m3, r1, r2, r3, r4⟩ := HP.out.below (HW.out.trans (hbg.mono HW.out.size)) az; clear r1 r2 r3 r4); clear hbg hdg; first | (go_simp; done) | (go_simp; with_reducible rfl))); simp only [Act.put, aA, aD, aE])
                  refine Grow.call (f := ?_) (args := ?_) rfl (fun wg => ?_) (fun wg hbg hdg => ?_) ?_
                  rotate_left 2
                  focus (first | (go_simp; done) | (go_simp; refine And.intro ?_ ?_ <;> with_reducible rfl) | (go_simp; with_reducible rfl))
                  focus exact Calls.mono (al.out wg hbg) (fun e w2 ⟨he, hb2⟩ => ⟨_, he, rfl, hb2⟩)
                  simp only [Act.put, Known.val, aA, aD, aE]
                  refine Grow.val (v := ?_) rfl rfl (fun wg hbg hdg => ?_) ?_
                  rotate_left
                  focus ((obtain ⟨ch, ck, cd⟩ := B1.out.later hbg); (obtain ⟨da, cr, cM⟩ := B5.out.later hbg); (obtain ⟨m0, m1, m2, m3, r1, r2, r3, r4⟩ := HP.out.below (HW.out.trans (hbg.mono HW.out.size)) az; clear r1 r2 r3 r4); clear hbg hdg; first | (go_simp; done) | (go_simp; with_reducible rfl))
                  simp only [Act.put, aA, aD, aE]
                  intro wg hb hf cz
                  clear cz
                  clear ad ag ae ak ai aj
                  replace B1 := h! (B1.out.later hb)
                  replace B5 := h! (B5.out.later hb)
                  replace HW := h! (HW.out.trans (hb.mono HW.out.size))
                  clear hb
                  obtain ⟨ad, ag, ae⟩ := B1.out
                  obtain ⟨ak, ai, aj⟩ := B5.out
                  clear hf
                  cases ax
                  · go_wp2
                    go_ret
                    exact ⟨by rw [bv.out (by rw [bs.out, show x.code.all (gM ar ce) = false by (rw [cI]; exact ⟨y, dt.out, by rw [di.out]; simp⟩)]; rfl)]; rfl, HW.out⟩
                  · go_wp2
                    go_roundw
                    case rel => exact ⟨q + 1, hltq, by go_num, by rw [cn.out, dG, am.out]; simp [di.out], HW.out, B1.out, B5.out⟩
                    case measure => simp [intOf]; omega
                · obtain rfl : q = cl := by omega
                  rw [aH (by have := dn.out; omega)] at am
                  rw [am.out, bN] at bs
                  have al := h! (aF3 (t := x.term) (at_ := ay) (ct := ba) (ap := ap) (np := np) (cp := cp) (ab := some ⟨bb, bo, none⟩) (nb := nb) (cb := cb) (ar := ar) (ce := ce) (cG.out.2.2.below HW.out))
                  generalize hen : iT nb x.term = ax at al
                  rw [hen] at bs
                  clear hen
                  go_wp2_with fail
                  refine al.out.mono ?_
                  rintro e w3 ⟨rfl, h3⟩
                  clear ad ag ae ak ai aj
                  replace B1 := h! (B1.out.later h3)
                  replace B5 := h! (B5.out.later h3)
                  replace HW := h! (HW.out.trans (h3.mono HW.out.size))
                  clear h3
                  obtain ⟨ad, ag, ae⟩ := B1.out
                  obtain ⟨ak, ai, aj⟩ := B5.out
                  cases ax
                  · go_wp2
                    go_ret
                    exact ⟨by rw [bv.out bs.out]; rfl, HW.out⟩
                  · go_wp2
                    go_roundw
                    case rel => exact ⟨j + 1, hltb, by go_num, by rw [cy.out, dG, aw.out]; simp [bs.out], HW.out, B1.out⟩
                    case measure => simp [intOf]; omega
        · obtain rfl : j = nb := by omega
          rw [aH (by rw [eD]; have := cw.out; omega)] at aw
          go_wp2
          go_ret
          exact ⟨by rw [HR.out, aw.out]; rfl, HW.out⟩
end Go.Proofs.YtagabiidbbhhmaaGreat
