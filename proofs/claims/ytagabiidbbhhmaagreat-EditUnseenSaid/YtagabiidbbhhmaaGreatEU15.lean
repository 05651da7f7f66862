/- Part 15. -/
import Derived.Test.YtagabiidbbhhmaaGreatEU14
namespace Go.Proofs.YtagabiidbbhhmaaGreat
set_option linter.all false
open Go.RowKit
set_option maxHeartbeats 12800000 in
set_option maxRecDepth 100000 in
theorem qN {w : World} {f : FuncD} {ap ab : Option Addr} {np cp nb cb : Nat} {ar ce : Int} {r : Bool} (hnp : np = f.params.length) (hnb : nb = f.blocks.length) (har : ar = f.arrays) (hce : ce = f.cells) (hp : Ints w (.slice ap np cp) f.params) (hB : eU gI 6 w (.slice ab nb cb) f.blocks) (ha64 : In64 f.arrays) (hc64 : In64 f.cells)
    (h1 : np ≤ 16) (h2 : 0 ≤ ar ∧ ar ≤ 8) (h3 : 0 ≤ ce ∧ ce ≤ 64) (h4 : 1 ≤ nb ∧ nb ≤ 512) (h5 : kY f ≤ 4096) (hr : r = (f.params.all kK && f.blocks.zipIdx.all (gA nb ar ce))) :
    Calls Tryz.prog 69 #[.agg #[.slice ap np cp, .int .i64 ar, .int .i64 ce, .slice ab nb cb]] w fun e w' => e = .returned (.bool r) ∧ Below w.heap.size w w' := by
  have HV : Hid (fP w (.agg #[.slice ap np cp, .int .i64 ar, .int .i64 ce, .slice ab nb cb]) f) := h! ⟨_, _, by rw [har, hce], by rw [hnp] at hp; rw [hnp]; exact hp, ha64, hc64, hB⟩
  have HR := h! hr
  have dm := h! hnp
  have cL := h! hnb
  obtain ⟨a1, c1, pb, po, dh, dx, hpm, cx, cz⟩ := hp.parts
  rw [← hnp] at dh dx cx cz
  cases dh
  obtain ⟨a2, c2, bb, bo, dp, dw, hbm, ed, cG, dk⟩ := eW hB
  rw [← hnb] at dp dw cG
  cases dp
  obtain ⟨rfl, bv⟩ := cG (by omega)
  have ec := h! cx
  have dy := h! cz
  have ea := h! bv
  have dv := h! dk
  have dz := h! h2
  have ds := h! h3
  have dj := h! h4.2
  have cy := h! h1
  have g1 : decide (16 < (np : Int)) = false := by simp; omega
  have g2 : decide (ar < 0) = false := by simp; omega
  have g3 : decide (8 < ar) = false := by simp; omega
  have g4 : decide (ce < 0) = false := by simp; omega
  have g5 : decide (64 < ce) = false := by simp; omega
  have g6 : decide ((nb : Int) < 1) = false := by simp; omega
  have g7 : decide (512 < (nb : Int)) = false := by simp; omega
  have g8 : decide (4096 < kY f) = false := by simp; omega
  clear hr hnp hnb har hce hp hB ha64 hc64 cx cz bv cG dk h1 h2 h3 h4 h5 ed
  go_enter Tryz.func69, Tryz.ntmps69
  go_upto_region 1 with (fail)
  have bd := (Below.refl w.heap.size w).alloc (aC _) (.cells #[.slice ap np cp, .int .i64 ar, .int .i64 ce, .slice (some ⟨bb, bo, none⟩) nb cb] 25)
  have HW := h! bd
  clear bd
  have B1 := h! (Box.new w #[.slice ap np cp, .int .i64 ar, .int .i64 ce, .slice (some ⟨bb, bo, none⟩) nb cb] 25)
  generalize w.alloc (.cells #[.slice ap np cp, .int .i64 ar, .int .i64 ce, .slice (some ⟨bb, bo, none⟩) nb cb] 25) = wv at *
  obtain ⟨ad, ae, ag⟩ := B1.out
  go_wp2_with fail
  refine (yV (HV.out.below HW.out) (by rw [← cL.out]; exact dj.out)).mono ?_
  rintro e w1 ⟨rfl, bO⟩
  clear ad ae ag
  replace B1 := h! (B1.out.later bO)
  replace HW := h! (HW.out.trans (bO.mono HW.out.size))
  clear bO
  obtain ⟨ad, ae, ag⟩ := B1.out
  go_upto_region 3 with (fail)
  clear g1 g2 g3 g4 g5 g6 g7 g8
  have hnp16 := cy.out
  have hnb16 := dj.out
  go_wp2_with fail
  go_loopw [3] (fun i wr => ∃ j : Nat, j ≤ np ∧ i = .int .i64 j ∧ (f.params.take j).all kK = true ∧ Below w.heap.size w wr ∧ Box wr w.heap.size #[.slice ap np cp, .int .i64 ar, .int .i64 ce, .slice (some ⟨bb, bo, none⟩) nb cb]) (fun i _ => np - (intOf i).toNat)
  case atStart => exact ⟨0, aH _, rfl, rfl, HW.out, B1.out⟩
  case round =>
    obtain ⟨j, hj, rfl, bp, hW, ah⟩ := hrel
    clear ad ae ag
    have an := h! bp
    replace HW := h! hW
    replace B1 := h! ah
    clear bp hW ah
    obtain ⟨ad, ae, ag⟩ := B1.out
    by_cases hlt : j < np
    · obtain ⟨rfl, am⟩ := ec.out (by omega)
      have hx0 := (HW.out.cell am).trans (dy.out j hlt)
      have aq := fI f.params j (by have := dm.out; omega)
      have cw := h! (eS f.params j _ aq)
      have HM := h! (aG aq)
      clear aq
      generalize f.params.getD j 0 = t at *
      cases ht1 : (t != 1) <;> cases ht2 : (t != 2)
      all_goals
        have di := h! ht1
        have dl := h! ht2
        go_wp2
        first
          | (go_ret
             have hno : kK t = false := by unfold kK; have e1 := di.out; have e2 := dl.out; simp at e1 e2 ⊢; exact ⟨e1, e2⟩
             exact ⟨by rw [HR.out, show f.params.all kK = false by (rw [cE]; exact ⟨t, HM.out, by rw [hno]; simp⟩)]; rfl, HW.out⟩)
          | (go_roundw
             case rel => exact ⟨j + 1, hlt, by go_num, by rw [cw.out, dF, an.out]; unfold kK; have e1 := di.out; have e2 := dl.out; simp at e1 e2 ⊢; first | exact .inl e1 | exact .inr e2 | (exact .inl (by omega)), HW.out, B1.out⟩
             case measure => simp [intOf]; omega)
    · obtain rfl : j = np := by omega
      rw [aJ (by have := dm.out; omega)] at an
      replace HR : Hid (r = f.blocks.zipIdx.all (gA nb ar ce)) := h! (by rw [HR.out, an.out]; rfl)
      go_wp2_with fail
      obtain ⟨np, hnp⟩ : ∃ np, np = j := ⟨_, rfl⟩
      obtain rfl := hnp
      go_loopw [4] (fun i wr => ∃ j : Nat, j ≤ nb ∧ i = .int .i64 j ∧ (f.blocks.zipIdx.take j).all (gA nb ar ce) = true ∧ Below w.heap.size w wr ∧ Box wr w.heap.size #[.slice ap np cp, .int .i64 ar, .int .i64 ce, .slice (some ⟨bb, bo, none⟩) nb cb]) (fun i _ => nb - (intOf i).toNat)
      case atStart => exact ⟨0, aH _, rfl, rfl, HW.out, B1.out⟩
      case round =>
        obtain ⟨j, hj, rfl, bp, hW, ah⟩ := hrel
        clear ad ae ag
        replace an := h! bp
        replace HW := h! hW
        replace B1 := h! ah
        clear bp hW ah
        generalize wr = wb at *
        obtain ⟨ad, ae, ag⟩ := B1.out
        by_cases hltb : j < nb
        · have bv := ea.out
          obtain ⟨x, aq⟩ : ∃ x, f.blocks[j]? = some x := ⟨_, aB (by have := cL.out; omega)⟩
          obtain ⟨bc, bg, ba, be, bf, ax, hC⟩ := dv.out j x aq
          have db : f.blocks.zipIdx[j]? = some (x, j) := by simp [cQ, aq]
          have cw := h! (eS f.blocks.zipIdx j _ db)
          have bw : Hid (gA nb ar ce (x, j) = false → r = false) := h! (fun h => by rw [HR.out, cE]; exact ⟨_, aG db, by rw [h]; simp⟩)
          have cq : Hid (eU PhiR 4 w (.slice bc x.phis.length be) x.phis ∧ eU gZ 4 w (.slice bg x.code.length bf) x.code ∧ Ints w (.slice ba x.term.to.length ax) x.term.to) := h! ⟨hC.phis, hC.code, hC.to⟩
          obtain ⟨k0, k1, k2, k3, k4, k5, q1, q2, q3, q4, q5, q6⟩ := hC.below HW.out bv
          clear q1 q2 q3 q4 q5 q6 hC aq db
          obtain ⟨pl, cj⟩ : ∃ pl, pl = x.phis.length := ⟨_, rfl⟩
          obtain ⟨cl, cg⟩ : ∃ cl, cl = x.code.length := ⟨_, rfl⟩
          obtain ⟨ac, capc, bcd, ocd, bq, dr, hcm, bm, dc, df⟩ := fS cq.out.2.1
          obtain ⟨apx, capp, bph, oph, bh, da, hppm, bs, ay, bl⟩ := fH cq.out.1
          rw [← cj] at bh da bs ay k0
          rw [← cg] at bq dr bm dc k1
          cases bh
          cases bq
          have bx := h! cj
          have dq := h! cg
          have ch := h! ay
          have cs := h! bl
          have ci := h! dc
          have ck := h! df
          clear cj cg ay bl dc df
          go_upto_region 12 with (fail)
          have bj : wb.heap.size ≠ w.heap.size := fun e => by have := ad; omega
          have nB1B5 : w.heap.size ≠ wb.heap.size := fun e => bj e.symm
          clear ad ae ag
          have bd := (Below.refl wb.heap.size wb).alloc (aC _) (.cells #[.slice bc pl be, .slice bg cl bf, .int .i64 x.term.op, .int .i64 x.term.val, .slice ba x.term.to.length ax, .int .i64 x.term.n] 63)
          replace B1 := h! (B1.out.later bd)
          replace HW := h! (HW.out.trans (bd.mono HW.out.size))
          clear bd
          have B5 := h! (Box.new wb #[.slice bc pl be, .slice bg cl bf, .int .i64 x.term.op, .int .i64 x.term.val, .slice ba x.term.to.length ax, .int .i64 x.term.n] 63)
          generalize wb.alloc (.cells #[.slice bc pl be, .slice bg cl bf, .int .i64 x.term.op, .int .i64 x.term.val, .slice ba x.term.to.length ax, .int .i64 x.term.n] 63) = w5 at *
          obtain ⟨ad, ae, ag⟩ := B1.out
          obtain ⟨ak, ai, aj⟩ := B5.out
          clear k0 k1 k2 k3 k4 k5
          go_wp2_with fail
          go_loopw [6] (fun i wr => ∃ k : Nat, k ≤ pl ∧ (k = 0 ∨ j ≠ 0) ∧ i = .int .i64 k ∧ (x.phis.take k).all (iQ nb) = true ∧ Below w.heap.size w wr ∧ Box wr w.heap.size #[.slice ap np cp, .int .i64 ar, .int .i64 ce, .slice (some ⟨bb, bo, none⟩) nb cb] ∧ Box wr wb.heap.size #[.slice bc pl be, .slice bg cl bf, .int .i64 x.term.op, .int .i64 x.term.val, .slice ba x.term.to.length ax, .int .i64 x.term.n]) (fun i _ => pl - (intOf i).toNat)
          case atStart => exact ⟨0, aH _, .inl rfl, rfl, rfl, HW.out, B1.out, B5.out⟩
          case round =>
            obtain ⟨k, hk, dg, rfl, bi, hW, ah, bn⟩ := hrel
            clear ad ae ag ak ai aj
            have eb := h! dg
            have aw := h! bi
            replace HW := h! hW
            replace B1 := h! ah
            replace B5 := h! bn
            clear bi hW ah bn dg
            generalize wr = w7 at *
            obtain ⟨ad, ae, ag⟩ := B1.out
            obtain ⟨ak, ai, aj⟩ := B5.out
            by_cases hlt : k < pl
            · cases hj0 : ((j : Int) == 0)
              · obtain ⟨rfl, am⟩ := ch.out (by omega)
                obtain ⟨p, bz⟩ : ∃ p, x.phis[k]? = some p := ⟨_, aB (by have := bx.out; omega)⟩
                obtain ⟨af, av, cf, cv, hP⟩ := cs.out k p bz
                have cr := h! (eS x.phis k p bz)
                have ee := h! (aG bz)
                have HP := h! hP
                have cF := h! hj0
                clear hP bz
                have al : Hid (∀ wg, Below w7.heap.size w7 wg → Calls Tryz.prog 124 #[.agg #[.slice ap np cp, .int .i64 ar, .int .i64 ce, .slice (some ⟨bb, bo, none⟩) nb cb], .agg #[.int .i64 p.id, .int .i64 p.typ, .slice af p.src.length cf, .slice av p.vals.length cv]] wg fun e w' => e = .returned (.bool (iQ nb p)) ∧ Below wg.heap.size wg w') :=
                  h! (fun wg hbg => aFJ (x := p) (HP.out.src.below (HW.out.trans (hbg.mono HW.out.size))))
                generalize hpo : iQ nb p = ao at al
                have dn := h! hpo
                clear hpo
                go_upto_region 15 with (fail)
                refine wp_region_grow 12 (fun kz => match kz with | 9 => .const (.bool ao) | _ => .plain) (by kernel_rfl) (by kernel_rfl) ?_ (fun ν => ?_)
                · (intro k; (try dsimp only); split <;> first | exact True.intro | (intro u w1 w2 hu hb; exact hu.below hb))
                simp only [aP, aU, aS, aX]
                iterate 9 (refine Grow.val (v := ?_) rfl rfl (fun wg hbg hdg => ?_) ?_; rotate_left; (focus ((obtain ⟨cn, cB, co⟩ := B1.out.later hbg); (obtain ⟨cM, cd, cm⟩ := B5.out.later hbg); (obtain ⟨m0, m1, m2, m3, r1, r2, r3, r4⟩ := HP.out.below (HW.out.trans (hbg.mono HW.out.size)) am; clear r1 r2 r3 r4); clear hbg hdg; first | (go_simp; done) | (go_simp; with_reducible rfl))); simp only [Act.put, aA, aE, aF])
                refine Grow.call (f := ?_) (args := ?_) rfl (fun wg => ?_) (fun wg hbg hdg => ?_) ?_
                rotate_left 2
                focus (first | (go_simp; done) | (go_simp; refine And.intro ?_ ?_ <;> with_reducible rfl) | (go_simp; with_reducible rfl))
                focus exact Calls.mono (al.out wg hbg) (fun e w2 ⟨he, hb2⟩ => ⟨_, he, rfl, hb2⟩)
                simp only [Act.put, Known.val, aA, aE, aF]
                iterate 2 (refine Grow.val (v := ?_) rfl rfl (fun wg hbg hdg => ?_) ?_; rotate_left; (focus ((obtain ⟨cn, cB, co⟩ := B1.out.later hbg); (obtain ⟨cM, cd, cm⟩ := B5.out.later hbg); (obtain ⟨m0, m1, m2, m3, r1, r2, r3, r4⟩ := HP.out.below (HW.out.trans (hbg.mono HW.out.size)) am; clear r1 r2 r3 r4); clear hbg hdg; first | (go_simp; done) | (go_simp; with_reducible rfl))); simp only [Act.put, aA, aE, aF])
                intro wg hb hf cc
                clear cc
                clear ad ae ag ak ai aj
                replace B1 := h! (B1.out.later hb)
                replace B5 := h! (B5.out.later hb)
                replace HW := h! (HW.out.trans (hb.mono HW.out.size))
                clear hb
                obtain ⟨ad, ae, ag⟩ := B1.out
                obtain ⟨ak, ai, aj⟩ := B5.out
                clear hf
                cases ao
                · go_wp2
                  go_ret
                  exact ⟨by rw [bw.out (by unfold gA; rw [show x.phis.all (iQ nb) = false by (rw [cE]; exact ⟨p, ee.out, by rw [dn.out]; simp⟩)]; simp)]; rfl, HW.out⟩
                · go_wp2
                  go_roundw
                  case rel => exact ⟨k + 1, hlt, .inr (by have := cF.out; simp at this; omega), by go_num, by rw [cr.out, dF, aw.out]; simp [dn.out], HW.out, B1.out, B5.out⟩
                  case measure => simp [intOf]; omega
              · have cF := h! hj0
                go_upto_region 15 with (fail)
                go_quiet (fail)
                go_wp2
                go_ret
                exact ⟨by rw [bw.out (by unfold gA; have h1 := cF.out; have h2 := bx.out; simp at h1; simp [h1]; intro h3; rw [h3] at h2; simp at h2; omega)]; rfl, eT HW.out _⟩
            · obtain rfl : k = pl := by omega
              rw [aJ (by have := bx.out; omega)] at aw
              have br : Hid (gA nb ar ce (x, j) = (x.code.all (fZ ar ce) && iR nb x.term)) := h! (by
                have h1 := eb.out
                have h2 := bx.out
                unfold gA
                rw [aw.out]
                have h3 : (!(decide (j = 0) && decide (0 < x.phis.length))) = true := by
                  rcases h1 with h | h
                  · rw [show x.phis.length = 0 by omega]; simp
                  · simp [h]
                rw [h3]; simp)
              go_wp2_with fail
              go_loopw [7] (fun i wr => ∃ q : Nat, q ≤ cl ∧ i = .int .i64 q ∧ (x.code.take q).all (fZ ar ce) = true ∧ Below w.heap.size w wr ∧ Box wr w.heap.size #[.slice ap np cp, .int .i64 ar, .int .i64 ce, .slice (some ⟨bb, bo, none⟩) nb cb] ∧ Box wr wb.heap.size #[.slice bc k be, .slice bg cl bf, .int .i64 x.term.op, .int .i64 x.term.val, .slice ba x.term.to.length ax, .int .i64 x.term.n]) (fun i _ => cl - (intOf i).toNat)
              case atStart => exact ⟨0, aH _, rfl, rfl, HW.out, B1.out, B5.out⟩
              case round =>
                obtain ⟨q, hq, rfl, bk, hW, ah, bn⟩ := hrel
                clear ad ae ag ak ai aj
                have az := h! bk
                replace HW := h! hW
                replace B1 := h! ah
                replace B5 := h! bn
                clear bk hW ah bn
                generalize wr = w9 at *
                obtain ⟨ad, ae, ag⟩ := B1.out
                obtain ⟨ak, ai, aj⟩ := B5.out
                by_cases hltq : q < cl
                · obtain ⟨rfl, am⟩ := ci.out (by omega)
                  obtain ⟨y, bt⟩ : ∃ y, x.code[q]? = some y := ⟨_, aB (by have := dq.out; omega)⟩
                  obtain ⟨aa, ca, hP⟩ := ck.out q y bt
                  have dd := h! (eS x.code q y bt)
                  have dt := h! (aG bt)
                  have HP := h! hP
                  clear hP bt
                  have al : Hid (∀ wg, Below w9.heap.size w9 wg → Calls Tryz.prog 125 #[.agg #[.slice ap np cp, .int .i64 ar, .int .i64 ce, .slice (some ⟨bb, bo, none⟩) nb cb], .agg #[.int .i64 y.op, .int .i64 y.id, .slice aa y.args.length ca, .int .i64 y.n]] wg fun e w' => e = .returned (.bool (fZ ar ce y)) ∧ Below wg.heap.size wg w') :=
                    h! (fun wg hbg => aBU (x := y) dz.out ds.out)
                  generalize hio : fZ ar ce y = ao at al
                  have de := h! hio
                  clear hio
                  go_upto_region 20 with (fail)
                  refine wp_region_grow 8 (fun kz => match kz with | 6 => .const (.bool ao) | _ => .plain) (by kernel_rfl) (by kernel_rfl) ?_ (fun ν => ?_)
                  · (intro k; (try dsimp only); split <;> first | exact True.intro | (intro u w1 w2 hu hb; exact hu.below hb))
                  simp only [aP, aU, aS, aX]
                  iterate 6 (refine Grow.val (v := ?_) rfl rfl (fun wg hbg hdg => ?_) ?_; rotate_left; (focus ((obtain ⟨cn, cB, co⟩ := B1.out.later hbg); (obtain ⟨cM, cd, cm⟩ := B5.out.later hbg); (obtain ⟨m0, m1, m2, m3, r1, r2, r3, r4⟩ := HP.out.below (HW.out.trans (hbg.mono HW.out.size)) am; clear r1 r2 r3 r4); clear hbg hdg; first | (go_simp; done) | (go_simp; with_reducible rfl))); simp only [Act.put, aA, aE, aF])
                  refine Grow.call (f := ?_) (args := ?_) rfl (fun wg => ?_) (fun wg hbg hdg => ?_) ?_
                  rotate_left 2
                  focus (first | (go_simp; done) | (go_simp; refine And.intro ?_ ?_ <;> with_reducible rfl) | (go_simp; with_reducible rfl))
                  focus exact Calls.mono (al.out wg hbg) (fun e w2 ⟨he, hb2⟩ => ⟨_, he, rfl, hb2⟩)
                  simp only [Act.put, Known.val, aA, aE, aF]
                  refine Grow.val (v := ?_) rfl rfl (fun wg hbg hdg => ?_) ?_
                  rotate_left
                  focus ((obtain ⟨cn, cB, co⟩ := B1.out.later hbg); (obtain ⟨cM, cd, cm⟩ := B5.out.later hbg); (obtain ⟨m0, m1, m2, m3, r1, r2, r3, r4⟩ := HP.out.below (HW.out.trans (hbg.mono HW.out.size)) am; clear r1 r2 r3 r4); clear hbg hdg; first | (go_simp; done) | (go_simp; with_reducible rfl))
                  simp only [Act.put, aA, aE, aF]
                  intro wg hb hf cc
                  clear cc
                  clear ad ae ag ak ai aj
                  replace B1 := h! (B1.out.later hb)
                  replace B5 := h! (B5.out.later hb)
                  replace HW := h! (HW.out.trans (hb.mono HW.out.size))
                  clear hb
                  obtain ⟨ad, ae, ag⟩ := B1.out
                  obtain ⟨ak, ai, aj⟩ := B5.out
                  clear hf
                  cases ao
                  · go_wp2
                    go_ret
                    exact ⟨by rw [bw.out (by rw [br.out, show x.code.all (fZ ar ce) = false by (rw [cE]; exact ⟨y, dt.out, by rw [de.out]; simp⟩)]; rfl)]; rfl, HW.out⟩
                  · go_wp2
                    go_roundw
                    case rel => exact ⟨q + 1, hltq, by go_num, by rw [dd.out, dF, az.out]; simp [de.out], HW.out, B1.out, B5.out⟩
                    case measure => simp [intOf]; omega
                · obtain rfl : q = cl := by omega
                  rw [aJ (by have := dq.out; omega)] at az
                  rw [az.out, bL] at br
                  have al := h! (aFI (t := x.term) (at_ := ba) (ct := ax) (ap := ap) (np := np) (cp := cp) (ab := some ⟨bb, bo, none⟩) (nb := nb) (cb := cb) (ar := ar) (ce := ce) (cq.out.2.2.below HW.out))
                  generalize hen : iR nb x.term = ao at al
                  rw [hen] at br
                  clear hen
                  go_wp2_with fail
                  refine al.out.mono ?_
                  rintro e w3 ⟨rfl, h3⟩
                  clear ad ae ag ak ai aj
                  replace B1 := h! (B1.out.later h3)
                  replace B5 := h! (B5.out.later h3)
                  replace HW := h! (HW.out.trans (h3.mono HW.out.size))
                  clear h3
                  obtain ⟨ad, ae, ag⟩ := B1.out
                  obtain ⟨ak, ai, aj⟩ := B5.out
                  cases ao
                  · go_wp2
                    go_ret
                    exact ⟨by rw [bw.out br.out]; rfl, HW.out⟩
                  · go_wp2
                    go_roundw
                    case rel => exact ⟨j + 1, hltb, by go_num, by rw [cw.out, dF, an.out]; simp [br.out], HW.out, B1.out⟩
                    case measure => simp [intOf]; omega
        · obtain rfl : j = nb := by omega
          rw [aJ (by rw [dY]; have := cL.out; omega)] at an
          go_wp2
          go_ret
          exact ⟨by rw [HR.out, an.out]; rfl, HW.out⟩
end Go.Proofs.YtagabiidbbhhmaaGreat
