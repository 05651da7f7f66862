/- IrTells: the law. -/
import Derived.Test.YtefpmjnimnmniaaIrT
namespace Go.Proofs.Ytefpmjnimnmniaa
set_option linter.unusedSimpArgs false
set_option linter.unusedVariables false
open Go.RowKit Go.Shelf

theorem vals_types {f : FuncD} (h : formB f = true) {p : Int × Int} (hp : p ∈ valsF f) : p.2 = 1 ∨ p.2 = 2 := by
  have h0 := h
  unfold formB at h0
  simp only [Bool.and_eq_true, List.all_eq_true] at h0
  unfold valsF at hp
  rcases List.mem_append.1 hp with hp | hp
  · unfold parT at hp
    obtain ⟨q, hq, rfl⟩ := List.mem_map.1 hp
    have hm : q.1 ∈ f.params := by
      obtain ⟨i, hi, rfl⟩ := List.getElem_of_mem hq
      simp
    have := h0.1.2 q.1 hm
    unfold parOk at this
    simpa using this
  · unfold defsF at hp
    obtain ⟨b, hb, hp⟩ := List.mem_flatMap.1 hp
    obtain ⟨j, hj, rfl⟩ := List.getElem_of_mem hb
    have h1 := h0.2 (f.blocks[j], j) (by rw [List.mem_iff_getElem?]; exact ⟨j, by simp [hj]⟩)
    unfold blockOk at h1
    simp only [Bool.and_eq_true, List.all_eq_true] at h1
    unfold defsB at hp
    rcases List.mem_append.1 hp with hp | hp
    · obtain ⟨q, hq, rfl⟩ := List.mem_map.1 hp
      have h2 := h1.1.1.2 q hq
      unfold phiOk at h2
      simp only [Bool.and_eq_true, Bool.or_eq_true, beq_iff_eq] at h2
      exact h2.1.1.1
    · obtain ⟨q, hq, rfl⟩ := List.mem_map.1 hp
      have h2 := (List.mem_filter.1 hq).2
      have h3 := (shp0_args q.op).2.2
      simp at h2
      simp only
      omega
theorem tyOf_types {f : FuncD} (h : checkF f = 0) {id t : Int} (ht : tyOf (valsF f) id = some t) : t = 1 ∨ t = 2 := vals_types (check_ok h).1 (tyOf_mem ht)
theorem ids_same {f : FuncD} (h : checkF f = 0) {L S : List Int} (hL : IdsL f L) (hS : IdsS f.params.length (valsF f) (valsF f).length S) : L = S := by
  obtain ⟨h1, h2, _⟩ := hL.1 h
  exact rise_ext h1 hS.rise fun x => by rw [h2, hS.mem, List.take_length]
theorem countU_ux {f : FuncD} (he : Even f) (id : Int) (k : Nat) : ((((uxF f).take k).countP fun u => u.id == id : Nat) : Int) = countU ((usesF f).take k) id := by
  unfold countU
  rw [← ux_pairs he, ← List.map_take, List.countP_map]
  rfl

set_option maxHeartbeats 6400000 in
set_option maxRecDepth 100000 in
theorem walkTells {w : World} {v : Value} (f : FuncD) {id : Int} (hv : FuncV w v f) (h64 : In64 id) : Calls Try.prog 16 #[v, .int .i64 id] w fun e w' => e = .returned (.bool true) ∧ Below w.heap.size w w' := by
  have HV := Lib.hid hv
  obtain ⟨ap, cp, ab, cb, rfl, hp, ha, hc, hB⟩ := hv.form
  obtain ⟨np, hnp⟩ : ∃ np, np = f.params.length := ⟨_, rfl⟩
  obtain ⟨nb, hnb⟩ : ∃ nb, nb = f.blocks.length := ⟨_, rfl⟩
  obtain ⟨ar, har⟩ : ∃ ar, ar = f.arrays := ⟨_, rfl⟩
  obtain ⟨ce, hce⟩ : ∃ ce, ce = f.cells := ⟨_, rfl⟩
  rw [← hnp, ← hnb, ← har, ← hce] at HV ⊢
  have HNB := Lib.hid hnb
  clear hp ha hc hB hv h64 hnp hnb har hce
  go_enter Try.func16, Try.ntmps16
  go_upto_region 1 with (fail)
  have B2 : Hid (Box (w.alloc (.cells #[.slice ap np cp, .int .i64 ar, .int .i64 ce, .slice ab nb cb] 30)) (w.heap.size) #[.slice ap np cp, .int .i64 ar, .int .i64 ce, .slice ab nb cb]) := Lib.hid (by simpa using (Box.new w #[.slice ap np cp, .int .i64 ar, .int .i64 ce, .slice ab nb cb] 30))
  have HW : Hid (Below w.heap.size w (w.alloc (.cells #[.slice ap np cp, .int .i64 ar, .int .i64 ce, .slice ab nb cb] 30))) := Lib.hid ((Below.refl _ _).alloc (Nat.le_refl _) _)
  generalize (w.alloc (.cells #[.slice ap np cp, .int .i64 ar, .int .i64 ce, .slice ab nb cb] 30)) = wv at *
  obtain ⟨lB2, cB2, fB2⟩ := B2.out
  go_wp2_with fail
  refine (refCheck (HV.out.below HW.out)).mono ?_
  rintro e w2 ⟨rfl, hb2⟩
  clear lB2 cB2 fB2
  replace B2 := Lib.hid (B2.out.later hb2)
  replace HW := Lib.hid (HW.out.trans (hb2.mono HW.out.size))
  clear hb2
  obtain ⟨lB2, cB2, fB2⟩ := B2.out
  go_wp2_with fail
  refine (irIds (HV.out.below HW.out)).mono ?_
  rintro e w3 ⟨ui, L, rfl, hui, hb3, hL⟩
  obtain ⟨ia, ic, rfl⟩ := hui.ints.form
  have HI := Lib.hid hui.ints
  have HL := Lib.hid hL
  clear hui hL
  clear lB2 cB2 fB2
  replace B2 := Lib.hid (B2.out.later hb3)
  replace HW := Lib.hid (HW.out.trans (hb3.mono HW.out.size))
  clear hb3
  obtain ⟨lB2, cB2, fB2⟩ := B2.out

  go_wp2_with fail
  refine (irSize (HV.out.below HW.out)).mono ?_
  rintro e w4 ⟨rfl, hb4⟩
  clear lB2 cB2 fB2
  replace B2 := Lib.hid (B2.out.later hb4)
  replace HI := Lib.hid (HI.out.later hb4)
  replace HW := Lib.hid (HW.out.trans (hb4.mono HW.out.size))
  clear hb4
  obtain ⟨lB2, cB2, fB2⟩ := B2.out
  go_wp2_with fail
  refine (irTypeOf (HV.out.below HW.out) id).mono ?_
  rintro e w5 ⟨rfl, hb5⟩
  clear lB2 cB2 fB2
  replace B2 := Lib.hid (B2.out.later hb5)
  replace HI := Lib.hid (HI.out.later hb5)
  replace HW := Lib.hid (HW.out.trans (hb5.mono HW.out.size))
  clear hb5
  obtain ⟨lB2, cB2, fB2⟩ := B2.out
  go_wp2_with fail
  refine (irUses (HV.out.below HW.out) id).mono ?_
  rintro e w6 ⟨rfl, hb6⟩
  clear lB2 cB2 fB2
  replace B2 := Lib.hid (B2.out.later hb6)
  replace HI := Lib.hid (HI.out.later hb6)
  replace HW := Lib.hid (HW.out.trans (hb6.mono HW.out.size))
  clear hb6
  obtain ⟨lB2, cB2, fB2⟩ := B2.out
  go_wp2_with fail
  refine awake1.mono ?_
  rintro e w7 ⟨rfl, hb7⟩
  clear lB2 cB2 fB2
  replace B2 := Lib.hid (B2.out.later hb7)
  replace HI := Lib.hid (HI.out.later hb7)
  replace HW := Lib.hid (HW.out.trans (hb7.mono HW.out.size))
  clear hb7
  obtain ⟨lB2, cB2, fB2⟩ := B2.out
  by_cases hc0 : checkF f = 0
  · have HC0 := Lib.hid hc0
    have HF := Lib.hid (check_ok hc0)
    have HS0 : Hid (sizeA f = sizeF f) := Lib.hid (if_pos hc0)
    clear hc0
    cases hty : tyOf (valsF f) id with
    | none =>
      have HTY := Lib.hid hty
      have HT : Hid (typeT f id = 0) := Lib.hid (by unfold typeT; rw [if_pos HC0.out, hty]; rfl)
      have HE : Hid (typeE f id = 9) := Lib.hid (by unfold typeE; rw [if_pos HC0.out, hty]; rfl)
      have HN : Hid (useN f id = 0) := Lib.hid (if_neg (by rw [HE.out]; decide))
      clear hty
      rw [HC0.out, HT.out, HE.out, HN.out, HS0.out]
      go_wp2_with fail
      refine (refIds (HV.out.below HW.out) HF.out.1).mono ?_
      rintro e w8 ⟨hb8, hids⟩
      clear lB2 cB2 fB2
      replace B2 := Lib.hid (B2.out.later hb8)
      replace HI := Lib.hid (HI.out.later hb8)
      replace HW := Lib.hid (HW.out.trans (hb8.mono HW.out.size))
      clear hb8
      obtain ⟨lB2, cB2, fB2⟩ := B2.out
      rcases hids with ⟨hno, _⟩ | ⟨_, us, S, rfl, hus, hS⟩
      · rw [HF.out.2] at hno; cases hno
      · obtain ⟨sa, sc, rfl⟩ := hus.ints.form
        have HU := Lib.hid hus.ints
        have HSAME := Lib.hid (ids_same HC0.out HL.out hS)
        clear hus hS

        go_wp2_with fail
        refine (refTypeOf (HV.out.below HW.out) HF.out.1 id).mono ?_
        rintro e w9 ⟨rfl, hb9⟩
        rw [HTY.out]
        clear lB2 cB2 fB2
        replace B2 := Lib.hid (B2.out.later hb9)
        replace HI := Lib.hid (HI.out.later hb9)
        replace HU := Lib.hid (HU.out.later hb9)
        replace HW := Lib.hid (HW.out.trans (hb9.mono HW.out.size))
        clear hb9
        obtain ⟨lB2, cB2, fB2⟩ := B2.out
        go_wp2_with fail
        refine (sameB HI.out HU.out).mono ?_
        rintro e w10 ⟨rfl, hb10⟩
        rw [decide_eq_true HSAME.out]
        clear lB2 cB2 fB2
        replace B2 := Lib.hid (B2.out.later hb10)
        replace HI := Lib.hid (HI.out.later hb10)
        replace HU := Lib.hid (HU.out.later hb10)
        replace HW := Lib.hid (HW.out.trans (hb10.mono HW.out.size))
        clear hb10
        obtain ⟨lB2, cB2, fB2⟩ := B2.out
        go_wp2_with fail
        refine (refSize (HV.out.below HW.out) (even_of HF.out.1).len).mono ?_
        rintro e w11 ⟨rfl, hb11⟩
        clear lB2 cB2 fB2
        replace B2 := Lib.hid (B2.out.later hb11)
        replace HI := Lib.hid (HI.out.later hb11)
        replace HU := Lib.hid (HU.out.later hb11)
        replace HW := Lib.hid (HW.out.trans (hb11.mono HW.out.size))
        clear hb11
        obtain ⟨lB2, cB2, fB2⟩ := B2.out
        go_wp2
        go_ret
        exact ⟨rfl, HW.out⟩
    | some t =>
      have HTY := Lib.hid hty
      have HT : Hid (typeT f id = t) := Lib.hid (by unfold typeT; rw [if_pos HC0.out, hty]; rfl)
      have HE : Hid (typeE f id = 0) := Lib.hid (by unfold typeE; rw [if_pos HC0.out, hty]; rfl)
      have HN : Hid (useN f id = countU (usesF f) id) := Lib.hid (if_pos HE.out)
      have ht := tyOf_types HC0.out hty
      have HTT := Lib.hid ht
      have HEV := Lib.hid (even_of HF.out.1)
      clear hty ht
      rw [HC0.out, HT.out, HE.out, HN.out, HS0.out]
      have hcn := uses_len HC0.out
      have hcp := List.countP_le_length (p := fun u : Int × Int => u.1 == id) (l := usesF f)
      obtain ⟨cn, hcc⟩ : ∃ cn, cn = countU (usesF f) id := ⟨_, rfl⟩
      rw [← hcc]
      have HCC := Lib.hid hcc
      clear hcc hcn hcp
      rcases HTT.out with rfl | rfl
      all_goals
        go_wp2_with fail
        refine (refIds (HV.out.below HW.out) HF.out.1).mono ?_
        rintro e w8 ⟨hb8, hids⟩
        clear lB2 cB2 fB2
        replace B2 := Lib.hid (B2.out.later hb8)
        replace HI := Lib.hid (HI.out.later hb8)
        replace HW := Lib.hid (HW.out.trans (hb8.mono HW.out.size))
        clear hb8
        obtain ⟨lB2, cB2, fB2⟩ := B2.out
        rcases hids with ⟨hno, _⟩ | ⟨_, us, S, rfl, hus, hS⟩
        · rw [HF.out.2] at hno; cases hno
        · obtain ⟨sa, sc, rfl⟩ := hus.ints.form
          have HU := Lib.hid hus.ints
          have HSAME := Lib.hid (ids_same HC0.out HL.out hS)
          clear hus hS

          go_wp2_with fail
          refine (refTypeOf (HV.out.below HW.out) HF.out.1 id).mono ?_
          rintro e w9 ⟨rfl, hb9⟩
          rw [HTY.out]
          clear lB2 cB2 fB2
          replace B2 := Lib.hid (B2.out.later hb9)
          replace HI := Lib.hid (HI.out.later hb9)
          replace HU := Lib.hid (HU.out.later hb9)
          replace HW := Lib.hid (HW.out.trans (hb9.mono HW.out.size))
          clear hb9
          obtain ⟨lB2, cB2, fB2⟩ := B2.out
          go_wp2_with fail
          refine (sameB HI.out HU.out).mono ?_
          rintro e w10 ⟨rfl, hb10⟩
          rw [decide_eq_true HSAME.out]
          clear lB2 cB2 fB2
          replace B2 := Lib.hid (B2.out.later hb10)
          replace HI := Lib.hid (HI.out.later hb10)
          replace HU := Lib.hid (HU.out.later hb10)
          replace HW := Lib.hid (HW.out.trans (hb10.mono HW.out.size))
          clear hb10
          obtain ⟨lB2, cB2, fB2⟩ := B2.out
          go_wp2_with fail
          refine (refSize (HV.out.below HW.out) HEV.out.len).mono ?_
          rintro e w11 ⟨rfl, hb11⟩
          clear lB2 cB2 fB2
          replace B2 := Lib.hid (B2.out.later hb11)
          replace HI := Lib.hid (HI.out.later hb11)
          replace HU := Lib.hid (HU.out.later hb11)
          replace HW := Lib.hid (HW.out.trans (hb11.mono HW.out.size))
          clear hb11
          obtain ⟨lB2, cB2, fB2⟩ := B2.out
          go_wp2_with fail
          refine (refUses (HV.out.below HW.out) HEV.out).mono ?_
          rintro e w12 ⟨u3, rfl, hu3, hb12⟩
          obtain ⟨xa, xc, rfl⟩ := own_nil hu3
          have hm := uxF_le HEV.out
          obtain ⟨m, hmm⟩ : ∃ m, m = (uxF f).length := ⟨_, rfl⟩
          rw [← hmm] at hu3 hm ⊢
          have HMM := Lib.hid hmm
          have HUR : Hid (Row w12 (.slice xa m xc) m 5 (cellsU (uxF f))) := Lib.hid (Row.of_own hu3 (by omega))
          clear lB2 cB2 fB2
          replace B2 := Lib.hid (B2.out.later hb12)
          replace HI := Lib.hid (HI.out.later hb12)
          replace HU := Lib.hid (HU.out.later hb12)
          replace HW := Lib.hid (HW.out.trans (hb12.mono HW.out.size))
          clear hb12
          obtain ⟨lB2, cB2, fB2⟩ := B2.out
          clear lB2 cB2 fB2
          clear hu3 hmm
          obtain ⟨xa', xc', xb, xo, hxe, hxc, hxm, hxa, hxx⟩ := HUR.out.parts
          have hcl := HUR.out.len
          cases hxe
          have HXA := Lib.hid hxa
          have HXX := Lib.hid hxx
          have HCL := Lib.hid hcl
          clear hxa hxx hcl HUR
          go_wp2_with fail
          go_loopw [18, 19] (fun cc kk wr => ∃ (k : Nat) (c : Nat), k ≤ m ∧ kk = .int .i64 k ∧ cc = .int .i64 c ∧ c ≤ k ∧ c = ((uxF f).take k).countP (fun u => u.id == id) ∧ wr = w12) (fun _ kk _ => m - (intOf kk).toNat)
          case atStart => exact ⟨0, 0, Nat.zero_le _, rfl, rfl, Nat.le_refl _, by simp, rfl⟩
          case round =>
            obtain ⟨k, c, hk, rfl, rfl, hck, hcc, rfl⟩ := hrel
            have HCK := Lib.hid hcc
            clear hcc
            by_cases hlt : k < m
            · obtain ⟨x, hx⟩ : ∃ x, (uxF f)[k]? = some x := ⟨_, List.getElem?_eq_getElem (by have := HMM.out; omega)⟩
              obtain ⟨rfl, hxb⟩ := HXA.out (by have := HCL.out; omega)
              have hc0 := HXX.out _ _ (cellsU_at _ _ _ hx).1
              have HTK := Lib.hid (take_snoc _ k x hx)
              clear hx
              cases hxi : (x.id == id)
              · have HX := Lib.hid hxi
                go_wp2
                go_roundw
                case rel => exact ⟨k + 1, c, hlt, by go_num, rfl, by omega, by rw [HTK.out, List.countP_append, ← HCK.out]; simp [HX.out], by trivial⟩
                case measure => simp [intOf]; omega
              · have HX := Lib.hid hxi
                go_wp2
                go_roundw
                case rel => exact ⟨k + 1, c + 1, hlt, by go_num, by go_num, by omega, by rw [HTK.out, List.countP_append, ← HCK.out]; simp [HX.out], by trivial⟩
                case measure => simp [intOf]; omega
            · obtain rfl : k = m := by omega
              have HEQ : Hid (cn = (c : Int)) := Lib.hid (by
                rw [HCC.out, HCK.out]
                have := countU_ux HEV.out id k
                rw [this, List.take_of_length_le]
                rw [← ux_pairs HEV.out, List.length_map]; have := HMM.out; omega)
              have heq : (cn == (c : Int)) = true := by rw [HEQ.out]; simp
              go_wp2
              go_ret
              exact ⟨rfl, HW.out⟩
  · have HT : Hid (typeT f id = 0) := Lib.hid (if_neg hc0)
    have HE : Hid (typeE f id = checkF f) := Lib.hid (if_neg hc0)
    have HN : Hid (useN f id = 0) := Lib.hid (if_neg (by rw [HE.out]; exact hc0))
    have HS0 : Hid (sizeA f = 0) := Lib.hid (if_neg hc0)
    have hL0 := HL.out.2 hc0
    subst hL0
    have h1 : (checkF f != 0) = true := by simpa using hc0
    have h2 : (checkF f == 0) = false := by simpa using hc0
    clear hc0
    rw [HT.out, HE.out, HN.out, HS0.out]
    go_wp2
    go_ret
    exact ⟨rfl, HW.out⟩
end Go.Proofs.Ytefpmjnimnmniaa
