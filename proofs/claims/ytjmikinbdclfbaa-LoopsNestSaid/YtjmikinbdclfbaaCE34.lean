/- What the claim needs, part 34. -/
import Derived.Test.YtjmikinbdclfbaaCE33
namespace Go.Proofs.Ytjmikinbdclfbaa
set_option linter.unusedSimpArgs false
set_option linter.unusedVariables false
open Go.RowKit
theorem fault_reached9 {f : FuncD} (hF : FaultR f 0 0) : ∀ d, d < f.blocks.length → Way (toB f) (-1) d := by
  rcases hF with ⟨_, _, _, _, _, h⟩ | ⟨h, _⟩
  · cases h
  · exact h
theorem has_later {W0 : World} {v : Value} {xs : List Nat} {x : Nat} {c : Bool} (h : Ints W0 v (natI xs)) (hc : xs.contains x = c) : Hid (∀ wg, Below W0.heap.size W0 wg → Calls Try.prog 18 #[v, .int .i64 x] wg fun e w' => e = .returned (.bool c) ∧ Below wg.heap.size wg w') := Lib.hid (fun wg hbg => by
  have h9 := refHas (x := (x : Int)) (h.below hbg)
  rw [natI_has, hc] at h9
  exact h9.mono (fun e w2 ⟨h1, h2⟩ => ⟨h1, h2 ▸ Below.refl _ _⟩))
set_option maxHeartbeats 6400000 in
set_option maxRecDepth 100000 in
theorem walkNest {w : World} {v : Value} (f : FuncD) (hv : FuncV w v f) :
    Calls Try.prog 7 #[v] w fun e w' => e = .returned (.bool true) ∧ Below w.heap.size w w' := by
  have HV := Lib.hid hv
  obtain ⟨ap, cp, ab, cb, rfl, -, -, -, hbk⟩ := hv.form
  obtain ⟨a2, c2, bb, bo, hbe, -, -, -, hba, hbx⟩ := blocks_parts hbk
  cases hbe
  obtain ⟨nb, hnb⟩ : ∃ nb, nb = f.blocks.length := ⟨_, rfl⟩
  have HNB := Lib.hid hnb
  have HBX := Lib.hid hbx
  rw [← hnb] at HV hba
  rw [← hnb]
  have HBA := Lib.hid hba
  clear hv hbk hnb hbx hba
  go_enter Try.func7, Try.ntmps7
  go_upto_region 1 with (fail)
  have B1 : Hid (Box (w.alloc (.cells #[.slice ap f.params.length cp, .int .i64 f.arrays, .int .i64 f.cells, .slice ab nb cb] 31)) (w.heap.size) #[.slice ap f.params.length cp, .int .i64 f.arrays, .int .i64 f.cells, .slice ab nb cb]) := Lib.hid (by simpa using (Box.new w #[.slice ap f.params.length cp, .int .i64 f.arrays, .int .i64 f.cells, .slice ab nb cb] 31))
  have HW : Hid (Below w.heap.size w (w.alloc (.cells #[.slice ap f.params.length cp, .int .i64 f.arrays, .int .i64 f.cells, .slice ab nb cb] 31))) := Lib.hid ((Below.refl _ _).alloc (Nat.le_refl _) _)
  generalize (w.alloc (.cells #[.slice ap f.params.length cp, .int .i64 f.arrays, .int .i64 f.cells, .slice ab nb cb] 31)) = wv at *
  obtain ⟨lB1, cB1, fB1⟩ := B1.out
  go_wp2_with fail
  refine (loopsForest (HV.out.below HW.out)).mono ?_
  rintro e w2 ⟨hb, ⟨-, k, hk, rfl⟩ | ⟨hc0, hF, a, c, O, rfl, hO, hL⟩⟩
  · have hq : (k != 0) = true := by simpa using hk
    clear hk
    clear lB1 cB1 fB1
    replace B1 := Lib.hid (B1.out.later hb)
    replace HW := Lib.hid (HW.out.trans (hb.mono HW.out.size))
    clear hb
    obtain ⟨lB1, cB1, fB1⟩ := B1.out
    go_wp2_with fail
    refine awake9.mono ?_
    rintro e w3 ⟨rfl, hb⟩
    clear lB1 cB1 fB1
    replace B1 := Lib.hid (B1.out.later hb)
    replace HW := Lib.hid (HW.out.trans (hb.mono HW.out.size))
    clear hb
    obtain ⟨lB1, cB1, fB1⟩ := B1.out
    go_wp2_with fail
    refine awake9.mono ?_
    rintro e w4 ⟨rfl, hb⟩
    clear lB1 cB1 fB1
    replace B1 := Lib.hid (B1.out.later hb)
    replace HW := Lib.hid (HW.out.trans (hb.mono HW.out.size))
    clear hb
    obtain ⟨lB1, cB1, fB1⟩ := B1.out
    go_wp2
    go_ret
    exact ⟨rfl, HW.out⟩
  · have HC := Lib.hid (And.intro hc0 hF)
    obtain ⟨hn1, hn2⟩ := formB_nb (check_fine hc0).1
    rw [← HNB.out] at hn1 hn2
    have HNL0 := Lib.hid (fun (i : Nat) (l : LoopD) (hl : (loopsF f)[i]? = some l) => nest_law hO (fault_reached9 hF) hl)
    obtain ⟨a9, c9, b0, o0, he, hc1, -, -, ha, hx⟩ := loops_parts hL
    injection he with e1 e2 e3
    subst e1
    subst e3
    have hlen := heads_le f
    obtain ⟨nl, hnl⟩ : ∃ nl, nl = (loopsF f).length := ⟨_, rfl⟩
    rw [← hnl] at hlen hc1 ha ⊢
    have HNL := Lib.hid hnl
    have HA := Lib.hid ha
    have HX := Lib.hid hx
    have hnl5 : nl ≤ 512 := by have := HNB.out; omega
    have HWL : Hid (Since w2 w2) := Lib.hid (Below.refl _ _)
    obtain ⟨rfl, hbw⟩ := HBA.out (by omega)
    clear hc0 hF hO hL hnl ha hx e2
    clear lB1 cB1 fB1
    replace B1 := Lib.hid (B1.out.later hb)
    replace HW := Lib.hid (HW.out.trans (hb.mono HW.out.size))
    clear hb
    obtain ⟨lB1, cB1, fB1⟩ := B1.out

    go_wp2_with fail
    refine awake9.mono ?_
    rintro e w3 ⟨rfl, hb⟩
    clear lB1 cB1 fB1
    replace B1 := Lib.hid (B1.out.later hb)
    replace HWL := Lib.hid (HWL.out.later hb)
    replace HW := Lib.hid (HW.out.trans (hb.mono HW.out.size))
    clear hb
    obtain ⟨lB1, cB1, fB1⟩ := B1.out

    have HW3 := HW
    have HWL3 := HWL
    have B13 := B1

    go_wp2_with fail
    clear lB1 cB1 fB1
    clear HW HWL B1
    go_loopw [5] (fun iv wr => ∃ i : Nat, i ≤ nl ∧ iv = .int .i64 i ∧ Below w3.heap.size w3 wr) (fun iv _ => nl - (intOf iv).toNat)
    case atStart => exact ⟨0, Nat.zero_le _, rfl, Below.refl _ _⟩
    case round =>
      obtain ⟨i, hi, rfl, hb4⟩ := hrel
      have HW := Lib.hid hb4
      have B1 := Lib.hid (B13.out.later hb4)
      clear hb4
      by_cases hlt : i < nl
      · obtain ⟨rfl, hb0⟩ := HA.out (by omega)
        obtain ⟨l, hl⟩ : ∃ l, (loopsF f)[i]? = some l := ⟨_, List.getElem?_eq_getElem (by rw [← HNL.out]; exact hlt)⟩
        obtain ⟨a1, a2, a3, c1, c2, c3, hC⟩ := HX.out i l hl
        have HCC := Lib.hid hC
        have HL := Lib.hid hl
        obtain ⟨hnd, hlb, hll⟩ := loopsF_in hl
        have HLB := Lib.hid hlb
        obtain ⟨hhn, -, hll2⟩ := latch_in hl
        obtain ⟨g1, g2, g3, g4, g5, g6⟩ := HNL0.out i l hl
        obtain ⟨n1, hn1⟩ : ∃ n1, n1 = l.blocks.length := ⟨_, rfl⟩
        obtain ⟨n2, hn2⟩ : ∃ n2, n2 = l.latches.length := ⟨_, rfl⟩
        obtain ⟨hd, hhd⟩ : ∃ hd, hd = l.head := ⟨_, rfl⟩
        have hn2p : 0 < n2 := by rw [hn2]; exact List.length_pos_iff.2 g2
        rw [← hn1] at hll
        rw [← hn2] at hll2
        rw [← hhd] at hhn
        have HN1 := Lib.hid hn1
        have HN2 := Lib.hid hn2
        have HHD := Lib.hid hhd
        have G1 : Hid (l.blocks.contains hd = true) := Lib.hid (by rw [hhd]; simpa using g1)
        have G3 := Lib.hid g3
        have G4 := Lib.hid g4
        have G5 := Lib.hid g5
        have G6 := Lib.hid g6
        have hn15 : n1 ≤ 512 := by have := HNB.out; omega
        have hn25 : n2 ≤ 512 := by have := HNB.out; omega
        have hz : ((n2 : Int) == 0) = false := by simp; omega
        have HH1 := has_later hC.blocks G1.out
        rw [← HN1.out] at HH1
        clear hl hnd hlb hC hn1 hn2 hhd g1 g2 g3 g4 g5 g6



        obtain ⟨lB1, cB1, fB1⟩ := B1.out
        go_upto_region 7 with (fail)
        by_cases hi0 : 0 < i
        · obtain ⟨l9, hl9⟩ : ∃ l9, (loopsF f)[i - 1]? = some l9 := ⟨_, List.getElem?_eq_getElem (by rw [← HNL.out]; omega)⟩
          obtain ⟨a19, a29, a39, c19, c29, c39, hC9⟩ := HX.out (i - 1) l9 hl9
          obtain ⟨j9, hj9⟩ : ∃ j9, j9 = i - 1 := ⟨_, rfl⟩
          have hw9 : IntKind.i64.wrap ((i : Int) - 1) = (j9 : Int) := by
            have h1 := i64_add (x := (i : Int)) (y := -1) (by unfold In64; omega)
            rw [show (i : Int) - 1 = i + -1 by omega, h1]; omega
          have hjn : j9 < nl := by omega
          rw [← hj9] at hC9
          have HC9 := Lib.hid hC9
          obtain ⟨h9, hh9⟩ : ∃ h9, h9 = l9.head := ⟨_, rfl⟩
          have HH9 := Lib.hid hh9
          have hlt9 : h9 < hd := by rw [hh9, HHD.out]; exact G3.out l9 hl9 hi0
          clear hl9 hC9 hh9 hj9
          refine wp_region_grow 39 (fun kz => match kz with | 10 => .const (.bool true) | _ => .plain) (by kernel_rfl) (by kernel_rfl) ?_ (fun ν => ?_)
          · (intro k; (try dsimp only); split <;> first | exact True.intro | (intro u w1 w2 hu hb; exact hu.below hb))
          simp only [List.take_succ_cons, List.take_zero, List.drop_succ_cons, List.drop_zero]
          iterate 10 (refine Grow.val (v := ?_) rfl rfl (fun wg hbg hdg => ?_) ?_; rotate_left; (focus ((obtain ⟨lg0, cg0, fg0⟩ := B1.out.later hbg); (have hg2 := HWL3.out.trans ((HW.out.trans (hbg.mono HW.out.size)).mono HWL3.out.size); obtain ⟨k0, k1, k2, -, -, -, -, -⟩ := HCC.out.below hg2 hb0; rw [← HHD.out] at k0; rw [← HN1.out] at k1; rw [← HN2.out] at k2; have k9 := (HC9.out.below hg2 hb0).k0; rw [← HH9.out] at k9); clear hbg hdg; first | (go_simp; done) | (go_simp; with_reducible rfl))); simp only [Act.put, List.setIfInBounds_toArray, List.set_cons_zero, List.set_cons_succ])
          refine Grow.call (f := ?_) (args := ?_) rfl (fun wg => ?_) (fun wg hbg hdg => ?_) ?_
          rotate_left 2
          focus (first | (go_simp; done) | (go_simp; refine And.intro ?_ ?_ <;> with_reducible rfl) | (go_simp; with_reducible rfl))
          focus exact Calls.mono (HH1.out wg (HWL3.out.trans ((HW.out.trans (hbg.mono HW.out.size)).mono HWL3.out.size))) (fun e w2 ⟨he, hb2⟩ => ⟨_, he, rfl, hb2⟩)
          simp only [Act.put, Known.val, List.setIfInBounds_toArray, List.set_cons_zero, List.set_cons_succ]
          iterate 28 (refine Grow.val (v := ?_) rfl rfl (fun wg hbg hdg => ?_) ?_; rotate_left; (focus ((obtain ⟨lg0, cg0, fg0⟩ := B1.out.later hbg); (have hg2 := HWL3.out.trans ((HW.out.trans (hbg.mono HW.out.size)).mono HWL3.out.size); obtain ⟨k0, k1, k2, -, -, -, -, -⟩ := HCC.out.below hg2 hb0; rw [← HHD.out] at k0; rw [← HN1.out] at k1; rw [← HN2.out] at k2; have k9 := (HC9.out.below hg2 hb0).k0; rw [← HH9.out] at k9); clear hbg hdg; first | (go_simp; done) | (go_simp; with_reducible rfl))); simp only [Act.put, List.setIfInBounds_toArray, List.set_cons_zero, List.set_cons_succ])
          intro wg hb hf hap
          clear hap
          clear lB1 cB1 fB1
          replace B1 := Lib.hid (B1.out.later hb)
          replace HW := Lib.hid (HW.out.trans (hb.mono HW.out.size))
          clear hb
          obtain ⟨lB1, cB1, fB1⟩ := B1.out
          clear hf
          go_wp2_with fail
          clear hw9 hjn hlt9
          as_aux_lemma =>
            clear lB1 cB1 fB1
            have HB8 := HW
            clear HW B1 hz
            go_loopw [6] (fun iv wr => ∃ t : Nat, t ≤ n2 ∧ iv = .int .i64 t ∧ Below w3.heap.size w3 wr) (fun iv _ => n2 - (intOf iv).toNat)
            case atStart => exact ⟨0, Nat.zero_le _, rfl, HB8.out⟩
            case round =>
              obtain ⟨t, ht, rfl, hb4⟩ := hrel
              have HW := Lib.hid hb4
              have B1 := Lib.hid (B13.out.later hb4)
              have HWL : Hid (Below w2.heap.size w2 wr) := Lib.hid (HWL3.out.trans (hb4.mono HWL3.out.size))
              clear hb4
              obtain ⟨k0, k1, k2, k3, k4, kb, kl, ke⟩ := HCC.out.below HWL.out hb0
              rw [← HHD.out] at k0
              rw [← HN1.out] at k1
              rw [← HN2.out] at k2
              clear kb kl ke k3



              obtain ⟨lB1, cB1, fB1⟩ := B1.out
              by_cases htt : t < n2
              · obtain ⟨p, hp⟩ : ∃ p, l.latches[t]? = some p := ⟨_, List.getElem?_eq_getElem (by rw [← HN2.out]; exact htt)⟩
                obtain ⟨hpb, hpt⟩ := G4.out p (List.mem_of_getElem? hp)
                have hpn := HLB.out p hpb
                rw [← HHD.out] at hpt
                obtain ⟨x, hjx⟩ : ∃ x, f.blocks[p]? = some x := ⟨_, List.getElem?_eq_getElem hpn⟩
                rw [← HNB.out] at hpn
                obtain ⟨api, aii, ati, cpi, cii, cti, hBC⟩ := HBX.out p x hjx
                have HBC := Lib.hid hBC
                have hct : x.term.to.contains (hd : Int) = true := by
                  rw [natI_contains (fun y hy => by have := (formB_to (check_fine HC.out.1).1 hjx y hy).1; omega), ← toB_at hjx]
                  simpa using hpt
                obtain ⟨gb, go_, gc, he, hgl, -, -, hgx⟩ := ints_cells HCC.out.latches (by rw [natI_len, ← HN2.out]; omega)
                rw [natI_len] at he hgx
                injection he with x1 x2 x3
                subst x1
                subst x3
                have hpc := hgx t (by rw [← HN2.out]; exact htt)
                have hgv : (natI l.latches).getD t 0 = (p : Int) := by unfold natI; rw [List.getD_eq_getElem?_getD, List.getElem?_map, hp]; rfl
                rw [hgv] at hpc
                have HPC := Lib.hid hpc
                have HP1 := has_later HCC.out.blocks (List.contains_iff_mem.2 hpb)
                rw [← HN1.out] at HP1
                obtain ⟨tl, htl⟩ : ∃ tl, tl = x.term.to.length := ⟨_, rfl⟩
                have HTL := Lib.hid htl
                have HP2 : Hid (∀ wg, Below w.heap.size w wg → Calls Try.prog 18 #[.slice ati tl cti, .int .i64 hd] wg fun e w' => e = .returned (.bool true) ∧ Below wg.heap.size wg w') := Lib.hid (fun wg hbg => by
                  have h9 := refHas (x := (hd : Int)) (hBC.to.below hbg)
                  rw [hct, ← htl] at h9
                  exact h9.mono (fun e w2 ⟨h1, h2⟩ => ⟨h1, h2 ▸ Below.refl _ _⟩))
                clear hgx hgv hp x2 hpb hpt hjx hBC hct hpc htl
                go_upto_region 12 with (fail)
                clear k0 k1 k2 k4
                refine wp_region_grow 38 (fun kz => match kz with | 13 => .const (.bool true) | 35 => .const (.bool true) | _ => .plain) (by kernel_rfl) (by kernel_rfl) ?_ (fun ν => ?_)
                · (intro k; (try dsimp only); split <;> first | exact True.intro | (intro u w1 w2 hu hb; exact hu.below hb))
                simp only [List.take_succ_cons, List.take_zero, List.drop_succ_cons, List.drop_zero]
                iterate 13 (refine Grow.val (v := ?_) rfl rfl (fun wg hbg hdg => ?_) ?_; rotate_left; (focus ((obtain ⟨lg0, cg0, fg0⟩ := B1.out.later hbg); (have hg3 := HW.out.trans (hbg.mono HW.out.size); have hg2 := HWL3.out.trans (hg3.mono HWL3.out.size); obtain ⟨k0, k1, k2, -, -, -, -, -⟩ := HCC.out.below hg2 hb0; rw [← HHD.out] at k0; rw [← HN1.out] at k1; rw [← HN2.out] at k2; have kp := (hg2.cell (p := ⟨gb, go_ + t, none⟩) hgl).trans HPC.out; obtain ⟨m0, m1, m2, m3, m4, m5, -, -, -, -, -, -⟩ := HBC.out.below (HW3.out.trans (hg3.mono HW3.out.size)) hbw; rw [← HTL.out] at m4); clear hbg hdg; first | (go_simp; done) | (go_simp; with_reducible rfl))); simp only [Act.put, List.setIfInBounds_toArray, List.set_cons_zero, List.set_cons_succ])
                refine Grow.call (f := ?_) (args := ?_) rfl (fun wg => ?_) (fun wg hbg hdg => ?_) ?_
                rotate_left 2
                focus (first | (go_simp; done) | (go_simp; refine And.intro ?_ ?_ <;> with_reducible rfl) | (go_simp; with_reducible rfl))
                focus exact Calls.mono (HP1.out wg (HWL3.out.trans ((HW.out.trans (hbg.mono HW.out.size)).mono HWL3.out.size))) (fun e w2 ⟨he, hb2⟩ => ⟨_, he, rfl, hb2⟩)
                simp only [Act.put, Known.val, List.setIfInBounds_toArray, List.set_cons_zero, List.set_cons_succ]
                iterate 21 (refine Grow.val (v := ?_) rfl rfl (fun wg hbg hdg => ?_) ?_; rotate_left; (focus ((obtain ⟨lg0, cg0, fg0⟩ := B1.out.later hbg); (have hg3 := HW.out.trans (hbg.mono HW.out.size); have hg2 := HWL3.out.trans (hg3.mono HWL3.out.size); obtain ⟨k0, k1, k2, -, -, -, -, -⟩ := HCC.out.below hg2 hb0; rw [← HHD.out] at k0; rw [← HN1.out] at k1; rw [← HN2.out] at k2; have kp := (hg2.cell (p := ⟨gb, go_ + t, none⟩) hgl).trans HPC.out; obtain ⟨m0, m1, m2, m3, m4, m5, -, -, -, -, -, -⟩ := HBC.out.below (HW3.out.trans (hg3.mono HW3.out.size)) hbw; rw [← HTL.out] at m4); clear hbg hdg; first | (go_simp; done) | (go_simp; with_reducible rfl))); simp only [Act.put, List.setIfInBounds_toArray, List.set_cons_zero, List.set_cons_succ])
                refine Grow.call (f := ?_) (args := ?_) rfl (fun wg => ?_) (fun wg hbg hdg => ?_) ?_
                rotate_left 2
                focus (first | (go_simp; done) | (go_simp; refine And.intro ?_ ?_ <;> with_reducible rfl) | (go_simp; with_reducible rfl))
                focus exact Calls.mono (HP2.out wg (HW3.out.trans ((HW.out.trans (hbg.mono HW.out.size)).mono HW3.out.size))) (fun e w2 ⟨he, hb2⟩ => ⟨_, he, rfl, hb2⟩)
                simp only [Act.put, Known.val, List.setIfInBounds_toArray, List.set_cons_zero, List.set_cons_succ]
                iterate 2 (refine Grow.val (v := ?_) rfl rfl (fun wg hbg hdg => ?_) ?_; rotate_left; (focus ((obtain ⟨lg0, cg0, fg0⟩ := B1.out.later hbg); (have hg3 := HW.out.trans (hbg.mono HW.out.size); have hg2 := HWL3.out.trans (hg3.mono HWL3.out.size); obtain ⟨k0, k1, k2, -, -, -, -, -⟩ := HCC.out.below hg2 hb0; rw [← HHD.out] at k0; rw [← HN1.out] at k1; rw [← HN2.out] at k2; have kp := (hg2.cell (p := ⟨gb, go_ + t, none⟩) hgl).trans HPC.out; obtain ⟨m0, m1, m2, m3, m4, m5, -, -, -, -, -, -⟩ := HBC.out.below (HW3.out.trans (hg3.mono HW3.out.size)) hbw; rw [← HTL.out] at m4); clear hbg hdg; first | (go_simp; done) | (go_simp; with_reducible rfl))); simp only [Act.put, List.setIfInBounds_toArray, List.set_cons_zero, List.set_cons_succ])
                intro wg hb hf hap
                clear hap
                clear lB1 cB1 fB1
                replace B1 := Lib.hid (B1.out.later hb)
                replace HW := Lib.hid (HW.out.trans (hb.mono HW.out.size))
                clear hb
                obtain ⟨lB1, cB1, fB1⟩ := B1.out
                clear hf
                go_wp2
                go_roundw
                case rel => exact ⟨t + 1, htt, by go_num, HW.out⟩
                case measure => simp [intOf]; omega
              · obtain rfl : n2 = t := by omega
                go_wp2_with fail
                clear lB1 cB1 fB1
                have HB9 := HW
                clear HW B1 k0 k1 k2 k4 HWL
                go_loopw [7] (fun iv wr => ∃ j : Nat, j ≤ i ∧ iv = .int .i64 j ∧ Below w3.heap.size w3 wr) (fun iv _ => i - (intOf iv).toNat)
                case atStart => exact ⟨0, Nat.zero_le _, rfl, HB9.out⟩
                case round =>
                  obtain ⟨j, hj, rfl, hb4⟩ := hrel
                  have HW := Lib.hid hb4
                  have HWL : Hid (Below w2.heap.size w2 wr) := Lib.hid (HWL3.out.trans (hb4.mono HWL3.out.size))
                  clear hb4
                  obtain ⟨k0, k1, k2, k3, k4, kb, kl, ke⟩ := HCC.out.below HWL.out hb0
                  rw [← HHD.out] at k0
                  rw [← HN1.out] at k1
                  clear kb kl ke k2 k3
                  by_cases hji : j < i
                  · obtain ⟨m, hm⟩ : ∃ m, (loopsF f)[j]? = some m := ⟨_, List.getElem?_eq_getElem (by rw [← HNL.out]; omega)⟩
                    obtain ⟨b1, b2, b3, d1, d2, d3, hMC⟩ := HX.out j m hm
                    have hcnt := G5.out j m hji hm
                    have hmll := (loopsF_in hm).2.2
                    obtain ⟨nm, hnm⟩ : ∃ nm, nm = m.blocks.length := ⟨_, rfl⟩
                    have HNM := Lib.hid hnm
                    have HMC := Lib.hid hMC
                    rw [← HN1.out, ← hnm] at hcnt
                    have HCNT := Lib.hid hcnt
                    have hnm5 : nm ≤ 512 := by have := HNB.out; omega
                    have hjn : j < nl := by omega
                    have q1 := (hMC.below HWL.out hb0).k1
                    rw [← hnm] at q1
                    clear hm hMC hcnt hmll hnm
                    go_upto_region 17 with (fail)
                    go_quiet (fail)
                    clear k0 k1 k4 q1
                    go_wp2_with fail
                    have HB10 := below_drewN HW.out nq
                    clear HW HWL
                    go_loopw [8, 11] (fun cv kv wr => ∃ k : Nat, k ≤ n1 ∧ cv = .int .i64 ((l.blocks.take k).countP fun x => m.blocks.contains x : Nat) ∧ kv = .int .i64 k ∧ Below w3.heap.size w3 wr) (fun _ kv _ => n1 - (intOf kv).toNat)
                    case atStart => exact ⟨0, Nat.zero_le _, rfl, rfl, HB10⟩
                    case round =>
                      obtain ⟨k, hk, rfl, rfl, hb4⟩ := hrel
                      have HW := Lib.hid hb4
                      have HWL : Hid (Below w2.heap.size w2 wr) := Lib.hid (HWL3.out.trans (hb4.mono HWL3.out.size))
                      clear hb4
                      obtain ⟨cn, hcn⟩ : ∃ cn, cn = (l.blocks.take k).countP fun x => m.blocks.contains x := ⟨_, rfl⟩
                      have hcnk : cn ≤ k := by rw [hcn]; exact Nat.le_trans List.countP_le_length (by rw [List.length_take]; exact Nat.min_le_left _ _)
                      rw [← hcn]
                      have HCN := Lib.hid hcn
                      clear hcn
                      by_cases hkt : k < n1
                      · obtain ⟨q, hq⟩ : ∃ q, l.blocks[k]? = some q := ⟨_, List.getElem?_eq_getElem (by rw [← HN1.out]; exact hkt)⟩
                        obtain ⟨gb, go_, gc, he, hgl, -, -, hgx⟩ := ints_cells HCC.out.blocks (by rw [natI_len, ← HN1.out]; omega)
                        rw [natI_len] at he hgx
                        injection he with x1 x2 x3
                        subst x1
                        subst x3
                        have hpc := hgx k (by rw [← HN1.out]; exact hkt)
                        have hgv : (natI l.blocks).getD k 0 = (q : Int) := by unfold natI; rw [List.getD_eq_getElem?_getD, List.getElem?_map, hq]; rfl
                        rw [hgv] at hpc
                        have HPC := Lib.hid hpc
                        obtain ⟨ct, hct⟩ : ∃ ct, ct = m.blocks.contains q := ⟨_, rfl⟩
                        have HM1 := has_later HMC.out.blocks hct.symm
                        rw [← HNM.out] at HM1
                        have HNX : Hid ((l.blocks.take (k + 1)).countP (fun x => m.blocks.contains x) = cn + (if ct = true then 1 else 0)) := Lib.hid (by rw [take_snoc _ _ _ hq, List.countP_append, ← HCN.out, List.countP_singleton, ← hct])
                        clear hgx hgv hq x2 hpc hct
                        go_upto_region 21 with (fail)


                        refine wp_region_grow 14 (fun kz => match kz with | 13 => .const (.bool ct) | _ => .plain) (by kernel_rfl) (by kernel_rfl) ?_ (fun ν => ?_)
                        · (intro k; (try dsimp only); split <;> first | exact True.intro | (intro u w1 w2 hu hb; exact hu.below hb))
                        simp only [List.take_succ_cons, List.take_zero, List.drop_succ_cons, List.drop_zero]
                        iterate 13 (refine Grow.val (v := ?_) rfl rfl (fun wg hbg hdg => ?_) ?_; rotate_left; (focus ((have hg3 := HW.out.trans (hbg.mono HW.out.size); have hg2 := HWL3.out.trans (hg3.mono HWL3.out.size); have k1 := (HCC.out.below hg2 hb0).k1; rw [← HN1.out] at k1; have q1 := (HMC.out.below hg2 hb0).k1; rw [← HNM.out] at q1; have kp := (hg2.cell (p := ⟨gb, go_ + k, none⟩) hgl).trans HPC.out); clear hbg hdg; first | (go_simp; done) | (go_simp; with_reducible rfl))); simp only [Act.put, List.setIfInBounds_toArray, List.set_cons_zero, List.set_cons_succ])
                        refine Grow.call (f := ?_) (args := ?_) rfl (fun wg => ?_) (fun wg hbg hdg => ?_) ?_
                        rotate_left 2
                        focus (first | (go_simp; done) | (go_simp; refine And.intro ?_ ?_ <;> with_reducible rfl) | (go_simp; with_reducible rfl))
                        focus exact Calls.mono (HM1.out wg (HWL3.out.trans ((HW.out.trans (hbg.mono HW.out.size)).mono HWL3.out.size))) (fun e w2 ⟨he, hb2⟩ => ⟨_, he, rfl, hb2⟩)
                        simp only [Act.put, Known.val, List.setIfInBounds_toArray, List.set_cons_zero, List.set_cons_succ]
                        intro wg hb hf hap
                        clear hap
                        replace HW := Lib.hid (HW.out.trans (hb.mono HW.out.size))
                        clear hb
                        clear hf
                        cases ct
                        · go_wp2
                          go_roundw
                          case rel => exact ⟨k + 1, hkt, by rw [HNX.out]; rfl, by go_num, HW.out⟩
                          case measure => simp [intOf]; omega
                        · go_wp2
                          go_roundw
                          case rel => exact ⟨k + 1, hkt, by rw [HNX.out]; go_num, by go_num, HW.out⟩
                          case measure => simp [intOf]; omega
                      · obtain rfl : n1 = k := by omega
                        have hcs := HCNT.out
                        have hce : (l.blocks.countP fun x => m.blocks.contains x) = cn := by
                          have h9 := HCN.out
                          rw [HN1.out, List.take_length] at h9
                          exact h9.symm
                        rw [hce] at hcs
                        clear hce HCN
                        by_cases c0 : cn = 0
                        · have z0 : ((cn : Int) != 0) = false := by simp [c0]
                          clear c0 hcs
                          go_wp2
                          go_roundw
                          case rel => exact ⟨j + 1, hji, by go_num, HW.out⟩
                          case measure => simp [intOf]; omega
                        · have z0 : ((cn : Int) != 0) = true := by simp; omega
                          by_cases c1 : cn = n1
                          · have z1 : ((cn : Int) != (n1 : Int)) = false := by simp [c1]
                            clear c0 c1 hcs
                            go_wp2
                            go_roundw
                            case rel => exact ⟨j + 1, hji, by go_num, HW.out⟩
                            case measure => simp [intOf]; omega
                          · have z1 : ((cn : Int) != (n1 : Int)) = true := by simp; omega
                            have z2 : ((cn : Int) != (nm : Int)) = false := by
                              rcases hcs with h | h | h
                              · exact absurd h c0
                              · exact absurd h c1
                              · simp [h]
                            clear c0 c1 hcs
                            go_wp2
                            go_roundw
                            case rel => exact ⟨j + 1, hji, by go_num, HW.out⟩
                            case measure => simp [intOf]; omega
                  · obtain rfl : i = j := by omega
                    obtain ⟨pr, hpr⟩ : ∃ pr, pr = l.parent := ⟨_, rfl⟩
                    rw [← hpr] at k4
                    have hpq := G6.out
                    rw [← hpr] at hpq
                    clear hpr
                    go_upto_region 26 with (fail)
                    clear k0 k1 k4


                    rcases hpq with hneg | ⟨p, m, rfl, hm, hml, hmh⟩
                    · have hng : ¬ 0 ≤ pr := by omega
                      refine wp_region_grow 37 (fun _ => .plain) (by kernel_rfl) (by kernel_rfl) ?_ (fun ν => ?_)
                      · exact fun _ => trivial
                      simp only [List.take_succ_cons, List.take_zero, List.drop_succ_cons, List.drop_zero]
                      iterate 3 (refine Grow.val (v := ?_) rfl rfl (fun wg hbg hdg => ?_) ?_; rotate_left; (focus (clear hbg hdg; first | (go_simp; done) | (go_simp; with_reducible rfl))); simp only [Act.put, List.setIfInBounds_toArray, List.set_cons_zero, List.set_cons_succ])
                      iterate 33 (refine Grow.skip rfl rfl ?_; simp only [Act.put, List.setIfInBounds_toArray, List.set_cons_zero, List.set_cons_succ])
                      refine Grow.val (v := ?_) rfl rfl (fun wg hbg hdg => ?_) ?_
                      rotate_left
                      focus (clear hbg hdg; first | (go_simp; done) | (go_simp; with_reducible rfl))
                      simp only [Act.put, List.setIfInBounds_toArray, List.set_cons_zero, List.set_cons_succ]
                      intro wg hb hf hap
                      clear hap
                      replace HW := Lib.hid (HW.out.trans (hb.mono HW.out.size))
                      clear hb
                      clear hf
                      go_wp2
                      go_roundw
                      case rel => exact ⟨i + 1, hlt, by go_num, HW.out⟩
                      case measure => simp [intOf]; omega
                    · have hpn : p < nl := by rw [HNL.out]; exact (List.getElem?_eq_some_iff.1 hm).1
                      obtain ⟨b1, b2, b3, d1, d2, d3, hMC⟩ := HX.out p m hm
                      obtain ⟨nm, hnm⟩ : ∃ nm, nm = m.blocks.length := ⟨_, rfl⟩
                      have HNM := Lib.hid hnm
                      have HMC := Lib.hid hMC
                      rw [← HHD.out] at hmh
                      rw [← HN1.out, ← hnm] at hml
                      have HM1 := has_later hMC.blocks (List.contains_iff_mem.2 hmh)
                      rw [← HNM.out] at HM1
                      clear hm hMC hnm hmh
                      have hnp : ¬ nl ≤ p := by omega
                      have hnm9 : ¬ nm ≤ n1 := by omega
                      refine wp_region_grow 37 (fun kz => match kz with | 33 => .const (.bool true) | _ => .plain) (by kernel_rfl) (by kernel_rfl) ?_ (fun ν => ?_)
                      · (intro k; (try dsimp only); split <;> first | exact True.intro | (intro u w1 w2 hu hb; exact hu.below hb))
                      simp only [List.take_succ_cons, List.take_zero, List.drop_succ_cons, List.drop_zero]
                      iterate 33 (refine Grow.val (v := ?_) rfl rfl (fun wg hbg hdg => ?_) ?_; rotate_left; (focus ((have hg3 := HW.out.trans (hbg.mono HW.out.size); have hg2 := HWL3.out.trans (hg3.mono HWL3.out.size); obtain ⟨k0, k1, -, -, -, -, -, -⟩ := HCC.out.below hg2 hb0; rw [← HHD.out] at k0; rw [← HN1.out] at k1; have q1 := (HMC.out.below hg2 hb0).k1; rw [← HNM.out] at q1); clear hbg hdg; first | (go_simp; done) | (go_simp; with_reducible rfl))); simp only [Act.put, List.setIfInBounds_toArray, List.set_cons_zero, List.set_cons_succ])
                      refine Grow.call (f := ?_) (args := ?_) rfl (fun wg => ?_) (fun wg hbg hdg => ?_) ?_
                      rotate_left 2
                      focus (first | (go_simp; done) | (go_simp; refine And.intro ?_ ?_ <;> with_reducible rfl) | (go_simp; with_reducible rfl))
                      focus exact Calls.mono (HM1.out wg (HWL3.out.trans ((HW.out.trans (hbg.mono HW.out.size)).mono HWL3.out.size))) (fun e w2 ⟨he, hb2⟩ => ⟨_, he, rfl, hb2⟩)
                      simp only [Act.put, Known.val, List.setIfInBounds_toArray, List.set_cons_zero, List.set_cons_succ]
                      iterate 3 (refine Grow.val (v := ?_) rfl rfl (fun wg hbg hdg => ?_) ?_; rotate_left; (focus ((have hg3 := HW.out.trans (hbg.mono HW.out.size); have hg2 := HWL3.out.trans (hg3.mono HWL3.out.size); obtain ⟨k0, k1, -, -, -, -, -, -⟩ := HCC.out.below hg2 hb0; rw [← HHD.out] at k0; rw [← HN1.out] at k1; have q1 := (HMC.out.below hg2 hb0).k1; rw [← HNM.out] at q1); clear hbg hdg; first | (go_simp; done) | (go_simp; with_reducible rfl))); simp only [Act.put, List.setIfInBounds_toArray, List.set_cons_zero, List.set_cons_succ])
                      intro wg hb hf hap
                      clear hap
                      replace HW := Lib.hid (HW.out.trans (hb.mono HW.out.size))
                      clear hb
                      clear hf
                      go_wp2
                      go_roundw
                      case rel => exact ⟨i + 1, hlt, by go_num, HW.out⟩
                      case measure => simp [intOf]; omega
        ·
          refine wp_region_grow 39 (fun kz => match kz with | 10 => .const (.bool true) | _ => .plain) (by kernel_rfl) (by kernel_rfl) ?_ (fun ν => ?_)
          · (intro k; (try dsimp only); split <;> first | exact True.intro | (intro u w1 w2 hu hb; exact hu.below hb))
          simp only [List.take_succ_cons, List.take_zero, List.drop_succ_cons, List.drop_zero]
          iterate 10 (refine Grow.val (v := ?_) rfl rfl (fun wg hbg hdg => ?_) ?_; rotate_left; (focus ((obtain ⟨lg0, cg0, fg0⟩ := B1.out.later hbg); (have hg2 := HWL3.out.trans ((HW.out.trans (hbg.mono HW.out.size)).mono HWL3.out.size); obtain ⟨k0, k1, k2, -, -, -, -, -⟩ := HCC.out.below hg2 hb0; rw [← HHD.out] at k0; rw [← HN1.out] at k1; rw [← HN2.out] at k2); clear hbg hdg; first | (go_simp; done) | (go_simp; with_reducible rfl))); simp only [Act.put, List.setIfInBounds_toArray, List.set_cons_zero, List.set_cons_succ])
          refine Grow.call (f := ?_) (args := ?_) rfl (fun wg => ?_) (fun wg hbg hdg => ?_) ?_
          rotate_left 2
          focus (first | (go_simp; done) | (go_simp; refine And.intro ?_ ?_ <;> with_reducible rfl) | (go_simp; with_reducible rfl))
          focus exact Calls.mono (HH1.out wg (HWL3.out.trans ((HW.out.trans (hbg.mono HW.out.size)).mono HWL3.out.size))) (fun e w2 ⟨he, hb2⟩ => ⟨_, he, rfl, hb2⟩)
          simp only [Act.put, Known.val, List.setIfInBounds_toArray, List.set_cons_zero, List.set_cons_succ]
          iterate 14 (refine Grow.val (v := ?_) rfl rfl (fun wg hbg hdg => ?_) ?_; rotate_left; (focus ((obtain ⟨lg0, cg0, fg0⟩ := B1.out.later hbg); (have hg2 := HWL3.out.trans ((HW.out.trans (hbg.mono HW.out.size)).mono HWL3.out.size); obtain ⟨k0, k1, k2, -, -, -, -, -⟩ := HCC.out.below hg2 hb0; rw [← HHD.out] at k0; rw [← HN1.out] at k1; rw [← HN2.out] at k2); clear hbg hdg; first | (go_simp; done) | (go_simp; with_reducible rfl))); simp only [Act.put, List.setIfInBounds_toArray, List.set_cons_zero, List.set_cons_succ])
          iterate 12 (refine Grow.skip rfl rfl ?_; simp only [Act.put, List.setIfInBounds_toArray, List.set_cons_zero, List.set_cons_succ])
          iterate 2 (refine Grow.val (v := ?_) rfl rfl (fun wg hbg hdg => ?_) ?_; rotate_left; (focus ((obtain ⟨lg0, cg0, fg0⟩ := B1.out.later hbg); (have hg2 := HWL3.out.trans ((HW.out.trans (hbg.mono HW.out.size)).mono HWL3.out.size); obtain ⟨k0, k1, k2, -, -, -, -, -⟩ := HCC.out.below hg2 hb0; rw [← HHD.out] at k0; rw [← HN1.out] at k1; rw [← HN2.out] at k2); clear hbg hdg; first | (go_simp; done) | (go_simp; with_reducible rfl))); simp only [Act.put, List.setIfInBounds_toArray, List.set_cons_zero, List.set_cons_succ])
          intro wg hb hf hap
          clear hap
          clear lB1 cB1 fB1
          replace B1 := Lib.hid (B1.out.later hb)
          replace HW := Lib.hid (HW.out.trans (hb.mono HW.out.size))
          clear hb
          obtain ⟨lB1, cB1, fB1⟩ := B1.out
          clear hf
          go_wp2_with fail
          as_aux_lemma =>
            clear lB1 cB1 fB1
            have HB8 := HW
            clear HW B1 hz
            go_loopw [6] (fun iv wr => ∃ t : Nat, t ≤ n2 ∧ iv = .int .i64 t ∧ Below w3.heap.size w3 wr) (fun iv _ => n2 - (intOf iv).toNat)
            case atStart => exact ⟨0, Nat.zero_le _, rfl, HB8.out⟩
            case round =>
              obtain ⟨t, ht, rfl, hb4⟩ := hrel
              have HW := Lib.hid hb4
              have B1 := Lib.hid (B13.out.later hb4)
              have HWL : Hid (Below w2.heap.size w2 wr) := Lib.hid (HWL3.out.trans (hb4.mono HWL3.out.size))
              clear hb4
              obtain ⟨k0, k1, k2, k3, k4, kb, kl, ke⟩ := HCC.out.below HWL.out hb0
              rw [← HHD.out] at k0
              rw [← HN1.out] at k1
              rw [← HN2.out] at k2
              clear kb kl ke k3



              obtain ⟨lB1, cB1, fB1⟩ := B1.out
              by_cases htt : t < n2
              · obtain ⟨p, hp⟩ : ∃ p, l.latches[t]? = some p := ⟨_, List.getElem?_eq_getElem (by rw [← HN2.out]; exact htt)⟩
                obtain ⟨hpb, hpt⟩ := G4.out p (List.mem_of_getElem? hp)
                have hpn := HLB.out p hpb
                rw [← HHD.out] at hpt
                obtain ⟨x, hjx⟩ : ∃ x, f.blocks[p]? = some x := ⟨_, List.getElem?_eq_getElem hpn⟩
                rw [← HNB.out] at hpn
                obtain ⟨api, aii, ati, cpi, cii, cti, hBC⟩ := HBX.out p x hjx
                have HBC := Lib.hid hBC
                have hct : x.term.to.contains (hd : Int) = true := by
                  rw [natI_contains (fun y hy => by have := (formB_to (check_fine HC.out.1).1 hjx y hy).1; omega), ← toB_at hjx]
                  simpa using hpt
                obtain ⟨gb, go_, gc, he, hgl, -, -, hgx⟩ := ints_cells HCC.out.latches (by rw [natI_len, ← HN2.out]; omega)
                rw [natI_len] at he hgx
                injection he with x1 x2 x3
                subst x1
                subst x3
                have hpc := hgx t (by rw [← HN2.out]; exact htt)
                have hgv : (natI l.latches).getD t 0 = (p : Int) := by unfold natI; rw [List.getD_eq_getElem?_getD, List.getElem?_map, hp]; rfl
                rw [hgv] at hpc
                have HPC := Lib.hid hpc
                have HP1 := has_later HCC.out.blocks (List.contains_iff_mem.2 hpb)
                rw [← HN1.out] at HP1
                obtain ⟨tl, htl⟩ : ∃ tl, tl = x.term.to.length := ⟨_, rfl⟩
                have HTL := Lib.hid htl
                have HP2 : Hid (∀ wg, Below w.heap.size w wg → Calls Try.prog 18 #[.slice ati tl cti, .int .i64 hd] wg fun e w' => e = .returned (.bool true) ∧ Below wg.heap.size wg w') := Lib.hid (fun wg hbg => by
                  have h9 := refHas (x := (hd : Int)) (hBC.to.below hbg)
                  rw [hct, ← htl] at h9
                  exact h9.mono (fun e w2 ⟨h1, h2⟩ => ⟨h1, h2 ▸ Below.refl _ _⟩))
                clear hgx hgv hp x2 hpb hpt hjx hBC hct hpc htl
                go_upto_region 12 with (fail)
                clear k0 k1 k2 k4
                refine wp_region_grow 38 (fun kz => match kz with | 13 => .const (.bool true) | 35 => .const (.bool true) | _ => .plain) (by kernel_rfl) (by kernel_rfl) ?_ (fun ν => ?_)
                · (intro k; (try dsimp only); split <;> first | exact True.intro | (intro u w1 w2 hu hb; exact hu.below hb))
                simp only [List.take_succ_cons, List.take_zero, List.drop_succ_cons, List.drop_zero]
                iterate 13 (refine Grow.val (v := ?_) rfl rfl (fun wg hbg hdg => ?_) ?_; rotate_left; (focus ((obtain ⟨lg0, cg0, fg0⟩ := B1.out.later hbg); (have hg3 := HW.out.trans (hbg.mono HW.out.size); have hg2 := HWL3.out.trans (hg3.mono HWL3.out.size); obtain ⟨k0, k1, k2, -, -, -, -, -⟩ := HCC.out.below hg2 hb0; rw [← HHD.out] at k0; rw [← HN1.out] at k1; rw [← HN2.out] at k2; have kp := (hg2.cell (p := ⟨gb, go_ + t, none⟩) hgl).trans HPC.out; obtain ⟨m0, m1, m2, m3, m4, m5, -, -, -, -, -, -⟩ := HBC.out.below (HW3.out.trans (hg3.mono HW3.out.size)) hbw; rw [← HTL.out] at m4); clear hbg hdg; first | (go_simp; done) | (go_simp; with_reducible rfl))); simp only [Act.put, List.setIfInBounds_toArray, List.set_cons_zero, List.set_cons_succ])
                refine Grow.call (f := ?_) (args := ?_) rfl (fun wg => ?_) (fun wg hbg hdg => ?_) ?_
                rotate_left 2
                focus (first | (go_simp; done) | (go_simp; refine And.intro ?_ ?_ <;> with_reducible rfl) | (go_simp; with_reducible rfl))
                focus exact Calls.mono (HP1.out wg (HWL3.out.trans ((HW.out.trans (hbg.mono HW.out.size)).mono HWL3.out.size))) (fun e w2 ⟨he, hb2⟩ => ⟨_, he, rfl, hb2⟩)
                simp only [Act.put, Known.val, List.setIfInBounds_toArray, List.set_cons_zero, List.set_cons_succ]
                iterate 21 (refine Grow.val (v := ?_) rfl rfl (fun wg hbg hdg => ?_) ?_; rotate_left; (focus ((obtain ⟨lg0, cg0, fg0⟩ := B1.out.later hbg); (have hg3 := HW.out.trans (hbg.mono HW.out.size); have hg2 := HWL3.out.trans (hg3.mono HWL3.out.size); obtain ⟨k0, k1, k2, -, -, -, -, -⟩ := HCC.out.below hg2 hb0; rw [← HHD.out] at k0; rw [← HN1.out] at k1; rw [← HN2.out] at k2; have kp := (hg2.cell (p := ⟨gb, go_ + t, none⟩) hgl).trans HPC.out; obtain ⟨m0, m1, m2, m3, m4, m5, -, -, -, -, -, -⟩ := HBC.out.below (HW3.out.trans (hg3.mono HW3.out.size)) hbw; rw [← HTL.out] at m4); clear hbg hdg; first | (go_simp; done) | (go_simp; with_reducible rfl))); simp only [Act.put, List.setIfInBounds_toArray, List.set_cons_zero, List.set_cons_succ])
                refine Grow.call (f := ?_) (args := ?_) rfl (fun wg => ?_) (fun wg hbg hdg => ?_) ?_
                rotate_left 2
                focus (first | (go_simp; done) | (go_simp; refine And.intro ?_ ?_ <;> with_reducible rfl) | (go_simp; with_reducible rfl))
                focus exact Calls.mono (HP2.out wg (HW3.out.trans ((HW.out.trans (hbg.mono HW.out.size)).mono HW3.out.size))) (fun e w2 ⟨he, hb2⟩ => ⟨_, he, rfl, hb2⟩)
                simp only [Act.put, Known.val, List.setIfInBounds_toArray, List.set_cons_zero, List.set_cons_succ]
                iterate 2 (refine Grow.val (v := ?_) rfl rfl (fun wg hbg hdg => ?_) ?_; rotate_left; (focus ((obtain ⟨lg0, cg0, fg0⟩ := B1.out.later hbg); (have hg3 := HW.out.trans (hbg.mono HW.out.size); have hg2 := HWL3.out.trans (hg3.mono HWL3.out.size); obtain ⟨k0, k1, k2, -, -, -, -, -⟩ := HCC.out.below hg2 hb0; rw [← HHD.out] at k0; rw [← HN1.out] at k1; rw [← HN2.out] at k2; have kp := (hg2.cell (p := ⟨gb, go_ + t, none⟩) hgl).trans HPC.out; obtain ⟨m0, m1, m2, m3, m4, m5, -, -, -, -, -, -⟩ := HBC.out.below (HW3.out.trans (hg3.mono HW3.out.size)) hbw; rw [← HTL.out] at m4); clear hbg hdg; first | (go_simp; done) | (go_simp; with_reducible rfl))); simp only [Act.put, List.setIfInBounds_toArray, List.set_cons_zero, List.set_cons_succ])
                intro wg hb hf hap
                clear hap
                clear lB1 cB1 fB1
                replace B1 := Lib.hid (B1.out.later hb)
                replace HW := Lib.hid (HW.out.trans (hb.mono HW.out.size))
                clear hb
                obtain ⟨lB1, cB1, fB1⟩ := B1.out
                clear hf
                go_wp2
                go_roundw
                case rel => exact ⟨t + 1, htt, by go_num, HW.out⟩
                case measure => simp [intOf]; omega
              · obtain rfl : n2 = t := by omega
                go_wp2_with fail
                clear lB1 cB1 fB1
                have HB9 := HW
                clear HW B1 k0 k1 k2 k4 HWL
                go_loopw [7] (fun iv wr => ∃ j : Nat, j ≤ i ∧ iv = .int .i64 j ∧ Below w3.heap.size w3 wr) (fun iv _ => i - (intOf iv).toNat)
                case atStart => exact ⟨0, Nat.zero_le _, rfl, HB9.out⟩
                case round =>
                  obtain ⟨j, hj, rfl, hb4⟩ := hrel
                  have HW := Lib.hid hb4
                  have HWL : Hid (Below w2.heap.size w2 wr) := Lib.hid (HWL3.out.trans (hb4.mono HWL3.out.size))
                  clear hb4
                  obtain ⟨k0, k1, k2, k3, k4, kb, kl, ke⟩ := HCC.out.below HWL.out hb0
                  rw [← HHD.out] at k0
                  rw [← HN1.out] at k1
                  clear kb kl ke k2 k3
                  by_cases hji : j < i
                  · obtain ⟨m, hm⟩ : ∃ m, (loopsF f)[j]? = some m := ⟨_, List.getElem?_eq_getElem (by rw [← HNL.out]; omega)⟩
                    obtain ⟨b1, b2, b3, d1, d2, d3, hMC⟩ := HX.out j m hm
                    have hcnt := G5.out j m hji hm
                    have hmll := (loopsF_in hm).2.2
                    obtain ⟨nm, hnm⟩ : ∃ nm, nm = m.blocks.length := ⟨_, rfl⟩
                    have HNM := Lib.hid hnm
                    have HMC := Lib.hid hMC
                    rw [← HN1.out, ← hnm] at hcnt
                    have HCNT := Lib.hid hcnt
                    have hnm5 : nm ≤ 512 := by have := HNB.out; omega
                    have hjn : j < nl := by omega
                    have q1 := (hMC.below HWL.out hb0).k1
                    rw [← hnm] at q1
                    clear hm hMC hcnt hmll hnm
                    go_upto_region 17 with (fail)
                    go_quiet (fail)
                    clear k0 k1 k4 q1
                    go_wp2_with fail
                    have HB10 := below_drewN HW.out nq
                    clear HW HWL
                    go_loopw [8, 11] (fun cv kv wr => ∃ k : Nat, k ≤ n1 ∧ cv = .int .i64 ((l.blocks.take k).countP fun x => m.blocks.contains x : Nat) ∧ kv = .int .i64 k ∧ Below w3.heap.size w3 wr) (fun _ kv _ => n1 - (intOf kv).toNat)
                    case atStart => exact ⟨0, Nat.zero_le _, rfl, rfl, HB10⟩
                    case round =>
                      obtain ⟨k, hk, rfl, rfl, hb4⟩ := hrel
                      have HW := Lib.hid hb4
                      have HWL : Hid (Below w2.heap.size w2 wr) := Lib.hid (HWL3.out.trans (hb4.mono HWL3.out.size))
                      clear hb4
                      obtain ⟨cn, hcn⟩ : ∃ cn, cn = (l.blocks.take k).countP fun x => m.blocks.contains x := ⟨_, rfl⟩
                      have hcnk : cn ≤ k := by rw [hcn]; exact Nat.le_trans List.countP_le_length (by rw [List.length_take]; exact Nat.min_le_left _ _)
                      rw [← hcn]
                      have HCN := Lib.hid hcn
                      clear hcn
                      by_cases hkt : k < n1
                      · obtain ⟨q, hq⟩ : ∃ q, l.blocks[k]? = some q := ⟨_, List.getElem?_eq_getElem (by rw [← HN1.out]; exact hkt)⟩
                        obtain ⟨gb, go_, gc, he, hgl, -, -, hgx⟩ := ints_cells HCC.out.blocks (by rw [natI_len, ← HN1.out]; omega)
                        rw [natI_len] at he hgx
                        injection he with x1 x2 x3
                        subst x1
                        subst x3
                        have hpc := hgx k (by rw [← HN1.out]; exact hkt)
                        have hgv : (natI l.blocks).getD k 0 = (q : Int) := by unfold natI; rw [List.getD_eq_getElem?_getD, List.getElem?_map, hq]; rfl
                        rw [hgv] at hpc
                        have HPC := Lib.hid hpc
                        obtain ⟨ct, hct⟩ : ∃ ct, ct = m.blocks.contains q := ⟨_, rfl⟩
                        have HM1 := has_later HMC.out.blocks hct.symm
                        rw [← HNM.out] at HM1
                        have HNX : Hid ((l.blocks.take (k + 1)).countP (fun x => m.blocks.contains x) = cn + (if ct = true then 1 else 0)) := Lib.hid (by rw [take_snoc _ _ _ hq, List.countP_append, ← HCN.out, List.countP_singleton, ← hct])
                        clear hgx hgv hq x2 hpc hct
                        go_upto_region 21 with (fail)


                        refine wp_region_grow 14 (fun kz => match kz with | 13 => .const (.bool ct) | _ => .plain) (by kernel_rfl) (by kernel_rfl) ?_ (fun ν => ?_)
                        · (intro k; (try dsimp only); split <;> first | exact True.intro | (intro u w1 w2 hu hb; exact hu.below hb))
                        simp only [List.take_succ_cons, List.take_zero, List.drop_succ_cons, List.drop_zero]
                        iterate 13 (refine Grow.val (v := ?_) rfl rfl (fun wg hbg hdg => ?_) ?_; rotate_left; (focus ((have hg3 := HW.out.trans (hbg.mono HW.out.size); have hg2 := HWL3.out.trans (hg3.mono HWL3.out.size); have k1 := (HCC.out.below hg2 hb0).k1; rw [← HN1.out] at k1; have q1 := (HMC.out.below hg2 hb0).k1; rw [← HNM.out] at q1; have kp := (hg2.cell (p := ⟨gb, go_ + k, none⟩) hgl).trans HPC.out); clear hbg hdg; first | (go_simp; done) | (go_simp; with_reducible rfl))); simp only [Act.put, List.setIfInBounds_toArray, List.set_cons_zero, List.set_cons_succ])
                        refine Grow.call (f := ?_) (args := ?_) rfl (fun wg => ?_) (fun wg hbg hdg => ?_) ?_
                        rotate_left 2
                        focus (first | (go_simp; done) | (go_simp; refine And.intro ?_ ?_ <;> with_reducible rfl) | (go_simp; with_reducible rfl))
                        focus exact Calls.mono (HM1.out wg (HWL3.out.trans ((HW.out.trans (hbg.mono HW.out.size)).mono HWL3.out.size))) (fun e w2 ⟨he, hb2⟩ => ⟨_, he, rfl, hb2⟩)
                        simp only [Act.put, Known.val, List.setIfInBounds_toArray, List.set_cons_zero, List.set_cons_succ]
                        intro wg hb hf hap
                        clear hap
                        replace HW := Lib.hid (HW.out.trans (hb.mono HW.out.size))
                        clear hb
                        clear hf
                        cases ct
                        · go_wp2
                          go_roundw
                          case rel => exact ⟨k + 1, hkt, by rw [HNX.out]; rfl, by go_num, HW.out⟩
                          case measure => simp [intOf]; omega
                        · go_wp2
                          go_roundw
                          case rel => exact ⟨k + 1, hkt, by rw [HNX.out]; go_num, by go_num, HW.out⟩
                          case measure => simp [intOf]; omega
                      · obtain rfl : n1 = k := by omega
                        have hcs := HCNT.out
                        have hce : (l.blocks.countP fun x => m.blocks.contains x) = cn := by
                          have h9 := HCN.out
                          rw [HN1.out, List.take_length] at h9
                          exact h9.symm
                        rw [hce] at hcs
                        clear hce HCN
                        by_cases c0 : cn = 0
                        · have z0 : ((cn : Int) != 0) = false := by simp [c0]
                          clear c0 hcs
                          go_wp2
                          go_roundw
                          case rel => exact ⟨j + 1, hji, by go_num, HW.out⟩
                          case measure => simp [intOf]; omega
                        · have z0 : ((cn : Int) != 0) = true := by simp; omega
                          by_cases c1 : cn = n1
                          · have z1 : ((cn : Int) != (n1 : Int)) = false := by simp [c1]
                            clear c0 c1 hcs
                            go_wp2
                            go_roundw
                            case rel => exact ⟨j + 1, hji, by go_num, HW.out⟩
                            case measure => simp [intOf]; omega
                          · have z1 : ((cn : Int) != (n1 : Int)) = true := by simp; omega
                            have z2 : ((cn : Int) != (nm : Int)) = false := by
                              rcases hcs with h | h | h
                              · exact absurd h c0
                              · exact absurd h c1
                              · simp [h]
                            clear c0 c1 hcs
                            go_wp2
                            go_roundw
                            case rel => exact ⟨j + 1, hji, by go_num, HW.out⟩
                            case measure => simp [intOf]; omega
                  · obtain rfl : i = j := by omega
                    obtain ⟨pr, hpr⟩ : ∃ pr, pr = l.parent := ⟨_, rfl⟩
                    rw [← hpr] at k4
                    have hpq := G6.out
                    rw [← hpr] at hpq
                    clear hpr
                    go_upto_region 26 with (fail)
                    clear k0 k1 k4


                    rcases hpq with hneg | ⟨p, m, rfl, hm, hml, hmh⟩
                    · have hng : ¬ 0 ≤ pr := by omega
                      refine wp_region_grow 37 (fun _ => .plain) (by kernel_rfl) (by kernel_rfl) ?_ (fun ν => ?_)
                      · exact fun _ => trivial
                      simp only [List.take_succ_cons, List.take_zero, List.drop_succ_cons, List.drop_zero]
                      iterate 3 (refine Grow.val (v := ?_) rfl rfl (fun wg hbg hdg => ?_) ?_; rotate_left; (focus (clear hbg hdg; first | (go_simp; done) | (go_simp; with_reducible rfl))); simp only [Act.put, List.setIfInBounds_toArray, List.set_cons_zero, List.set_cons_succ])
                      iterate 33 (refine Grow.skip rfl rfl ?_; simp only [Act.put, List.setIfInBounds_toArray, List.set_cons_zero, List.set_cons_succ])
                      refine Grow.val (v := ?_) rfl rfl (fun wg hbg hdg => ?_) ?_
                      rotate_left
                      focus (clear hbg hdg; first | (go_simp; done) | (go_simp; with_reducible rfl))
                      simp only [Act.put, List.setIfInBounds_toArray, List.set_cons_zero, List.set_cons_succ]
                      intro wg hb hf hap
                      clear hap
                      replace HW := Lib.hid (HW.out.trans (hb.mono HW.out.size))
                      clear hb
                      clear hf
                      go_wp2
                      go_roundw
                      case rel => exact ⟨i + 1, hlt, by go_num, HW.out⟩
                      case measure => simp [intOf]; omega
                    · have hpn : p < nl := by rw [HNL.out]; exact (List.getElem?_eq_some_iff.1 hm).1
                      obtain ⟨b1, b2, b3, d1, d2, d3, hMC⟩ := HX.out p m hm
                      obtain ⟨nm, hnm⟩ : ∃ nm, nm = m.blocks.length := ⟨_, rfl⟩
                      have HNM := Lib.hid hnm
                      have HMC := Lib.hid hMC
                      rw [← HHD.out] at hmh
                      rw [← HN1.out, ← hnm] at hml
                      have HM1 := has_later hMC.blocks (List.contains_iff_mem.2 hmh)
                      rw [← HNM.out] at HM1
                      clear hm hMC hnm hmh
                      have hnp : ¬ nl ≤ p := by omega
                      have hnm9 : ¬ nm ≤ n1 := by omega
                      refine wp_region_grow 37 (fun kz => match kz with | 33 => .const (.bool true) | _ => .plain) (by kernel_rfl) (by kernel_rfl) ?_ (fun ν => ?_)
                      · (intro k; (try dsimp only); split <;> first | exact True.intro | (intro u w1 w2 hu hb; exact hu.below hb))
                      simp only [List.take_succ_cons, List.take_zero, List.drop_succ_cons, List.drop_zero]
                      iterate 33 (refine Grow.val (v := ?_) rfl rfl (fun wg hbg hdg => ?_) ?_; rotate_left; (focus ((have hg3 := HW.out.trans (hbg.mono HW.out.size); have hg2 := HWL3.out.trans (hg3.mono HWL3.out.size); obtain ⟨k0, k1, -, -, -, -, -, -⟩ := HCC.out.below hg2 hb0; rw [← HHD.out] at k0; rw [← HN1.out] at k1; have q1 := (HMC.out.below hg2 hb0).k1; rw [← HNM.out] at q1); clear hbg hdg; first | (go_simp; done) | (go_simp; with_reducible rfl))); simp only [Act.put, List.setIfInBounds_toArray, List.set_cons_zero, List.set_cons_succ])
                      refine Grow.call (f := ?_) (args := ?_) rfl (fun wg => ?_) (fun wg hbg hdg => ?_) ?_
                      rotate_left 2
                      focus (first | (go_simp; done) | (go_simp; refine And.intro ?_ ?_ <;> with_reducible rfl) | (go_simp; with_reducible rfl))
                      focus exact Calls.mono (HM1.out wg (HWL3.out.trans ((HW.out.trans (hbg.mono HW.out.size)).mono HWL3.out.size))) (fun e w2 ⟨he, hb2⟩ => ⟨_, he, rfl, hb2⟩)
                      simp only [Act.put, Known.val, List.setIfInBounds_toArray, List.set_cons_zero, List.set_cons_succ]
                      iterate 3 (refine Grow.val (v := ?_) rfl rfl (fun wg hbg hdg => ?_) ?_; rotate_left; (focus ((have hg3 := HW.out.trans (hbg.mono HW.out.size); have hg2 := HWL3.out.trans (hg3.mono HWL3.out.size); obtain ⟨k0, k1, -, -, -, -, -, -⟩ := HCC.out.below hg2 hb0; rw [← HHD.out] at k0; rw [← HN1.out] at k1; have q1 := (HMC.out.below hg2 hb0).k1; rw [← HNM.out] at q1); clear hbg hdg; first | (go_simp; done) | (go_simp; with_reducible rfl))); simp only [Act.put, List.setIfInBounds_toArray, List.set_cons_zero, List.set_cons_succ])
                      intro wg hb hf hap
                      clear hap
                      replace HW := Lib.hid (HW.out.trans (hb.mono HW.out.size))
                      clear hb
                      clear hf
                      go_wp2
                      go_roundw
                      case rel => exact ⟨i + 1, hlt, by go_num, HW.out⟩
                      case measure => simp [intOf]; omega
      · obtain rfl : nl = i := by omega
        go_wp2
        go_ret
        exact ⟨rfl, HW3.out.trans (HW.out.mono HW3.out.size)⟩
end Go.Proofs.Ytjmikinbdclfbaa
