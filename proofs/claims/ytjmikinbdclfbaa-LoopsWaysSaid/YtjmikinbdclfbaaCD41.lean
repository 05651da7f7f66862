/- What the claim needs, part 41. -/
import Derived.Test.YtjmikinbdclfbaaCD36
import Derived.Test.YtjmikinbdclfbaaCD27
namespace Go.Proofs.Ytjmikinbdclfbaa
set_option linter.unusedSimpArgs false
set_option linter.unusedVariables false
open Go.RowKit
theorem find_ways {f : FuncD} {b t : Nat} {r : Int} (ht : t ∈ toB f b) (htl : t < f.blocks.length) (ho : OverP f t b) (hr : FindR (loopsF f) t r) : ∃ (i : Nat) (l : LoopD), r = i ∧ (loopsF f)[i]? = some l ∧ b ∈ l.latches ∧ b ∈ l.blocks := by
  obtain ⟨i, l, h1, h2, h3, h4, h5⟩ := ways_law ht htl ho
  rcases hr with ⟨j, m, rfl, g1, g2, g3⟩ | ⟨-, hn⟩
  · have : i = j := by
      rcases Nat.lt_trichotomy i j with h | h | h
      · exact absurd h2 (g3 i l h h1)
      · exact h
      · exact absurd g2 (h3 j m h g1)
    subst this
    exact ⟨i, l, rfl, h1, h4, h5⟩
  · exact absurd h2 (hn i l h1)
theorem latch_in {f : FuncD} {i : Nat} {l : LoopD} (hl : (loopsF f)[i]? = some l) : l.head < f.blocks.length ∧ (∀ p ∈ l.latches, p < f.blocks.length) ∧ l.latches.length ≤ f.blocks.length := by
  obtain ⟨e, hh, _⟩ := loopsF_at hl
  have el : l.latches = latN f l.head := by rw [e]; rfl
  refine ⟨(mem_headsN.1 (List.mem_of_getElem? hh)).1, fun p hp => ?_, by rw [el]; exact latN_len f _⟩
  rw [el] at hp
  exact toB_lt (mem_latN.1 hp).1
set_option maxHeartbeats 6400000 in
set_option maxRecDepth 100000 in
theorem walkWays {w : World} {v : Value} (f : FuncD) (hv : FuncV w v f) :
    Calls Try.prog 9 #[v] w fun e w' => e = .returned (.bool true) ∧ Below w.heap.size w w' := by
  have HV := Lib.hid hv
  obtain ⟨ap, cp, ab, cb, rfl, -, -, -, hbk⟩ := hv.form
  obtain ⟨a2, c2, bb, bo, hbe, -, -, -, hba, hbx⟩ := blocks_parts hbk
  cases hbe
  obtain ⟨nb, hnb⟩ : ∃ nb, nb = f.blocks.length := ⟨_, rfl⟩
  have HNB := Lib.hid hnb
  have HBX := Lib.hid hbx
  rw [← hnb] at HV hba
  rw [← hnb]
  have HBA := Lib.hid hba
  clear hv hbk hnb hbx hba
  go_enter Try.func9, Try.ntmps9
  go_upto_region 1 with (fail)
  have B1 : Hid (Box (w.alloc (.cells #[.slice ap f.params.length cp, .int .i64 f.arrays, .int .i64 f.cells, .slice ab nb cb] 31)) (w.heap.size) #[.slice ap f.params.length cp, .int .i64 f.arrays, .int .i64 f.cells, .slice ab nb cb]) := Lib.hid (by simpa using (Box.new w #[.slice ap f.params.length cp, .int .i64 f.arrays, .int .i64 f.cells, .slice ab nb cb] 31))
  have HW : Hid (Below w.heap.size w (w.alloc (.cells #[.slice ap f.params.length cp, .int .i64 f.arrays, .int .i64 f.cells, .slice ab nb cb] 31))) := Lib.hid ((Below.refl _ _).alloc (Nat.le_refl _) _)
  generalize (w.alloc (.cells #[.slice ap f.params.length cp, .int .i64 f.arrays, .int .i64 f.cells, .slice ab nb cb] 31)) = wv at *
  obtain ⟨lB1, cB1, fB1⟩ := B1.out
  go_wp2_with fail
  refine (loopsForest (HV.out.below HW.out)).mono ?_
  rintro e w2 ⟨hb, ⟨-, k, hk, rfl⟩ | ⟨hc0, hF, a, c, O, rfl, hO, hL⟩⟩
  · have hq : (k != 0) = true := by simpa using hk
    clear hk
    clear lB1 cB1 fB1
    replace B1 := Lib.hid (B1.out.later hb)
    replace HW := Lib.hid (HW.out.trans (hb.mono HW.out.size))
    clear hb
    obtain ⟨lB1, cB1, fB1⟩ := B1.out
    go_wp2_with fail
    refine awake9.mono ?_
    rintro e w3 ⟨rfl, hb⟩
    clear lB1 cB1 fB1
    replace B1 := Lib.hid (B1.out.later hb)
    replace HW := Lib.hid (HW.out.trans (hb.mono HW.out.size))
    clear hb
    obtain ⟨lB1, cB1, fB1⟩ := B1.out
    go_wp2_with fail
    refine awake9.mono ?_
    rintro e w4 ⟨rfl, hb⟩
    clear lB1 cB1 fB1
    replace B1 := Lib.hid (B1.out.later hb)
    replace HW := Lib.hid (HW.out.trans (hb.mono HW.out.size))
    clear hb
    obtain ⟨lB1, cB1, fB1⟩ := B1.out
    go_wp2
    go_ret
    exact ⟨rfl, HW.out⟩
  · have HC := Lib.hid (And.intro hc0 hF)
    obtain ⟨hn1, hn2⟩ := formB_nb (check_fine hc0).1
    rw [← HNB.out] at hn1 hn2
    have HL2 := Lib.hid hL
    obtain ⟨a9, c9, b0, o0, he, hc1, -, -, ha, hx⟩ := loops_parts hL
    injection he with e1 e2 e3
    subst e1
    subst e3
    have hlen := heads_le f
    obtain ⟨nl, hnl⟩ : ∃ nl, nl = (loopsF f).length := ⟨_, rfl⟩
    rw [← hnl] at hlen hc1 ha HL2 ⊢
    have HNL := Lib.hid hnl
    have HA := Lib.hid ha
    have HX := Lib.hid hx
    have hnl5 : nl ≤ 512 := by have := HNB.out; omega
    have HWL : Hid (Since w2 w2) := Lib.hid (Below.refl _ _)
    clear hc0 hF hO hL hnl ha hx e2
    clear lB1 cB1 fB1
    replace B1 := Lib.hid (B1.out.later hb)
    replace HW := Lib.hid (HW.out.trans (hb.mono HW.out.size))
    clear hb
    obtain ⟨lB1, cB1, fB1⟩ := B1.out

    go_wp2_with fail
    refine awake9.mono ?_
    rintro e w3 ⟨rfl, hb⟩
    clear lB1 cB1 fB1
    replace B1 := Lib.hid (B1.out.later hb)
    replace HWL := Lib.hid (HWL.out.later hb)
    replace HW := Lib.hid (HW.out.trans (hb.mono HW.out.size))
    clear hb
    obtain ⟨lB1, cB1, fB1⟩ := B1.out
    by_cases h100 : 100 < nb
    · go_wp2_with fail
      refine awake9.mono ?_
      rintro e w4 ⟨rfl, hb⟩
      clear lB1 cB1 fB1
      replace B1 := Lib.hid (B1.out.later hb)
      replace HWL := Lib.hid (HWL.out.later hb)
      replace HW := Lib.hid (HW.out.trans (hb.mono HW.out.size))
      clear hb
      obtain ⟨lB1, cB1, fB1⟩ := B1.out
      go_wp2
      go_ret
      exact ⟨rfl, HW.out⟩
    obtain ⟨rfl, hbw⟩ := HBA.out (by omega)

    go_wp2_with fail
    refine (refOver (HV.out.below HW.out) (check_fine HC.out.1).1).mono ?_
    rintro e w4 ⟨ov, rfl, hO4, hb⟩
    obtain ⟨oc, ob, oo, rfl, -, -, hobl, hox⟩ := hO4.parts (by rw [← HNB.out]; omega)
    rw [← HNB.out] at hox
    rw [← HNB.out]
    have HOX := Lib.hid hox
    clear hO4 hox
    clear lB1 cB1 fB1
    replace B1 := Lib.hid (B1.out.later hb)
    replace HWL := Lib.hid (HWL.out.later hb)
    replace HW := Lib.hid (HW.out.trans (hb.mono HW.out.size))
    clear hb
    obtain ⟨lB1, cB1, fB1⟩ := B1.out
    have HW4 := HW
    have HWL4 := HWL
    have B14 := B1

    go_wp2_with fail
    clear HW HWL B1 lB1 cB1 fB1
    go_loopw [6] (fun iv wr => ∃ b : Nat, b ≤ nb ∧ iv = .int .i64 b ∧ Below w4.heap.size w4 wr) (fun iv _ => nb - (intOf iv).toNat)
    case atStart => exact ⟨0, Nat.zero_le _, rfl, Below.refl _ _⟩
    case round =>
      obtain ⟨b, hb, rfl, hb4⟩ := hrel
      have HW := Lib.hid hb4
      have B1 := Lib.hid (B14.out.later hb4)
      clear hb4



      obtain ⟨lB1, cB1, fB1⟩ := B1.out
      by_cases hlt : b < nb
      · obtain ⟨x, hjx⟩ : ∃ x, f.blocks[b]? = some x := ⟨_, List.getElem?_eq_getElem (by have := HNB.out; omega)⟩
        obtain ⟨api, aii, ati, cpi, cii, cti, hC⟩ := HBX.out b x hjx
        have HIT := Lib.hid hC.to
        have HXX := Lib.hid hjx
        have HTO := Lib.hid (formB_to (check_fine HC.out.1).1 hjx)
        obtain ⟨k0, k1, k2, k3, k4, k5, q1, q2, q3, q4, q5, q6⟩ := hC.below (HW4.out.trans (HW.out.mono HW4.out.size)) hbw
        obtain ⟨tl, htl⟩ : ∃ tl, tl = x.term.to.length := ⟨_, rfl⟩
        have HTL := Lib.hid htl
        rw [← htl] at k4 HIT
        clear q1 q2 q3 q4 q5 q6 hC hjx k0 k1 k2 k3 k5 htl
        have HB6 := HW
        go_wp2_with fail
        clear k4
        clear lB1 cB1 fB1
        clear B1 HW
        go_loopw [8] (fun iv wr => ∃ k : Nat, k ≤ tl ∧ iv = .int .i64 k ∧ Below w4.heap.size w4 wr) (fun iv _ => tl - (intOf iv).toNat)
        case atStart => exact ⟨0, Nat.zero_le _, rfl, HB6.out⟩
        case round =>
          obtain ⟨k, hk, rfl, hb4⟩ := hrel
          have HW := Lib.hid hb4
          have HWR : Hid (Below w.heap.size w wr) := Lib.hid (HW4.out.trans (hb4.mono HW4.out.size))
          clear hb4
          by_cases hkt : k < tl
          · obtain ⟨y, hy⟩ : ∃ y, x.term.to[k]? = some y := ⟨_, List.getElem?_eq_getElem (by rw [← HTL.out]; exact hkt)⟩
            have hym := List.mem_of_getElem? hy
            obtain ⟨hy1, hy2⟩ := HTO.out y hym
            obtain ⟨t, rfl⟩ : ∃ t : Nat, y = t := ⟨y.toNat, by omega⟩
            have htn : t < nb := by rw [HNB.out]; omega
            have HTB : Hid (t ∈ toB f b) := Lib.hid (by rw [toB_at HXX.out]; exact List.mem_map.2 ⟨(t : Int), hym, by simp⟩)
            obtain ⟨gb, go_, gc, he, hgl, hm1, hm2, hgx⟩ := ints_cells HIT.out (by rw [← HTL.out]; omega)
            rw [← HTL.out] at he hgx hm1
            injection he with x1 x2 x3
            subst x1
            subst x3
            have hpc := (HWR.out.cell (p := ⟨gb, go_ + k, none⟩) hgl).trans (hgx k hkt)
            rw [show x.term.to.getD k 0 = (t : Int) by rw [List.getD_eq_getElem?_getD, hy]; rfl] at hpc
            obtain ⟨r, hr1, hr2, hr3⟩ := HOX.out t htn
            obtain ⟨xx, hx1, hx2⟩ := hr3 b hlt
            have hrc := (HW.out.cell (p := ⟨ob, oo + t, none⟩) hobl).trans hr1
            have hxc := (HW.out.cell (p := ⟨r, b, none⟩) hr2).trans hx1
            have HXO := Lib.hid hx2
            have HPC := Lib.hid hpc
            clear hgx hy x2 hym hy1 hy2 hr1 hr3 hx1 hx2
            cases xx
            · go_wp2
              go_roundw
              case rel => exact ⟨k + 1, hkt, by go_num, HW.out⟩
              case measure => simp [intOf]; omega
            · have HOV : Hid (OverP f t b) := Lib.hid (HXO.out.1 rfl)
              go_wp2_with fail
              clear hrc hxc hpc
              refine (refFind (t := t) (HL2.out.below LoopV.lasting (HWL4.out.trans (HW.out.mono HWL4.out.size)))).mono ?_
              rintro e w5 ⟨⟨r5, rfl, hF⟩, hb5⟩
              obtain ⟨i, l, rfl, hl, hbl, hbb⟩ := find_ways HTB.out (by rw [← HNB.out]; exact htn) HOV.out hF
              have hin : i < nl := by rw [HNL.out]; exact (List.getElem?_eq_some_iff.1 hl).1
              obtain ⟨rfl, hb0⟩ := HA.out (by omega)
              obtain ⟨a1, a2, a3, c1, c2, c3, hC⟩ := HX.out i l hl
              have HW5 : Hid (Below w4.heap.size w4 w5) := Lib.hid (HW.out.trans (hb5.mono HW.out.size))
              obtain ⟨k0, k1, k2, k3, k4, kb, kl, ke⟩ := hC.below (HWL4.out.trans (HW5.out.mono HWL4.out.size)) hb0
              have H1 := refHas (x := (b : Int)) kl
              have H2 := refHas (x := (b : Int)) kb
              rw [natI_has, List.contains_iff_mem.2 hbl] at H1
              rw [natI_has, List.contains_iff_mem.2 hbb] at H2
              obtain ⟨n1, hn1⟩ : ∃ n1, n1 = l.blocks.length := ⟨_, rfl⟩
              obtain ⟨n2, hn2⟩ : ∃ n2, n2 = l.latches.length := ⟨_, rfl⟩
              rw [← hn1] at k1 H2
              rw [← hn2] at k2 H1
              have HH1 := Lib.hid H1
              have HH2 := Lib.hid H2
              clear hF hb5 hl hbl hbb hC kb kl ke H1 H2 hn1 hn2 HW
              go_wp2_with fail
              refine HH1.out.mono ?_
              rintro e w6 ⟨rfl, rfl⟩
              go_wp2_with fail
              refine HH2.out.mono ?_
              rintro e w6 ⟨rfl, rfl⟩
              go_wp2
              go_roundw
              case rel => exact ⟨k + 1, hkt, by go_num, HW5.out⟩
              case measure => simp [intOf]; omega
          · obtain rfl : tl = k := by omega
            go_wp2
            go_roundw
            case rel => exact ⟨b + 1, hlt, by go_num, HW.out⟩
            case measure => simp [intOf]; omega
      · obtain rfl : nb = b := by omega
        have HB6 := HW
        go_wp2_with fail
        clear lB1 cB1 fB1
        clear B1 HW
        go_loopw [10] (fun iv wr => ∃ i : Nat, i ≤ nl ∧ iv = .int .i64 i ∧ Below w4.heap.size w4 wr) (fun iv _ => nl - (intOf iv).toNat)
        case atStart => exact ⟨0, Nat.zero_le _, rfl, HB6.out⟩
        case round =>
          obtain ⟨i, hi, rfl, hb4⟩ := hrel
          have HW := Lib.hid hb4
          clear hb4
          by_cases hin : i < nl
          · obtain ⟨rfl, hb0⟩ := HA.out (by omega)
            obtain ⟨l, hl⟩ : ∃ l, (loopsF f)[i]? = some l := ⟨_, List.getElem?_eq_getElem (by rw [← HNL.out]; exact hin)⟩
            obtain ⟨a1, a2, a3, c1, c2, c3, hC⟩ := HX.out i l hl
            have HCC := Lib.hid hC
            have HL := Lib.hid hl
            obtain ⟨hhn, hlb, hll⟩ := latch_in hl
            rw [← HNB.out] at hhn hll
            have HLB := Lib.hid hlb
            obtain ⟨n2, hn2⟩ : ∃ n2, n2 = l.latches.length := ⟨_, rfl⟩
            rw [← hn2] at hll
            have HN2 := Lib.hid hn2
            have HB7 := HW
            clear hl hlb hC hn2 HW
            go_wp2_with fail
            go_loopw [11] (fun iv wr => ∃ t : Nat, t ≤ n2 ∧ iv = .int .i64 t ∧ Below w4.heap.size w4 wr) (fun iv _ => n2 - (intOf iv).toNat)
            case atStart => exact ⟨0, Nat.zero_le _, rfl, HB7.out⟩
            case round =>
              obtain ⟨t, ht, rfl, hb4⟩ := hrel
              have HW := Lib.hid hb4
              have HWL : Hid (Below w2.heap.size w2 wr) := Lib.hid (HWL4.out.trans (hb4.mono HWL4.out.size))
              clear hb4
              obtain ⟨k0, k1, k2, k3, k4, kb, kl, ke⟩ := HCC.out.below HWL.out hb0
              rw [← HN2.out] at k2
              by_cases htt : t < n2
              · obtain ⟨p, hp⟩ : ∃ p, l.latches[t]? = some p := ⟨_, List.getElem?_eq_getElem (by rw [← HN2.out]; exact htt)⟩
                have hpm := List.mem_of_getElem? hp
                have hpn := HLB.out p hpm
                rw [← HNB.out] at hpn
                obtain ⟨gb, go_, gc, he, hgl, -, -, hgx⟩ := ints_cells kl (by rw [natI_len, ← HN2.out]; omega)
                rw [natI_len, ← HN2.out] at hgx
                rw [natI_len] at he
                injection he with x1 x2 x3
                subst x1
                subst x3
                have hpc := hgx t htt
                have hgv : (natI l.latches).getD t 0 = (p : Int) := by unfold natI; rw [List.getD_eq_getElem?_getD, List.getElem?_map, hp]; rfl
                rw [hgv] at hpc
                obtain ⟨r, hr1, hr2, hr3⟩ := HOX.out l.head hhn
                obtain ⟨xx, hx1, hx2⟩ := hr3 p hpn
                obtain rfl := hx2.2 (latch_law HL.out hpm)
                have hrc := (HW.out.cell (p := ⟨ob, oo + l.head, none⟩) hobl).trans hr1
                have hxc := (HW.out.cell (p := ⟨r, p, none⟩) hr2).trans hx1
                clear hgx hgv hp x2 hpm hr1 hr3 hx1 hx2 kb kl ke k1 k3 k4
                go_upto_region 22 with (fail)
                go_quiet (fail)
                go_wp2
                go_roundw
                case rel => exact ⟨t + 1, htt, by go_num, below_drewN HW.out nq⟩
                case measure => simp [intOf]; omega
              · obtain rfl : n2 = t := by omega
                clear kb kl ke
                go_wp2
                go_roundw
                case rel => exact ⟨i + 1, hin, by go_num, HW.out⟩
                case measure => simp [intOf]; omega
          · obtain rfl : nl = i := by omega
            go_wp2
            go_ret
            exact ⟨rfl, HW4.out.trans (HW.out.mono HW4.out.size)⟩
end Go.Proofs.Ytjmikinbdclfbaa
