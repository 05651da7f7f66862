/- IrUsed: the law. -/
import Derived.Test.YtefpmjnimnmniaaIrL1
namespace Go.Proofs.Ytefpmjnimnmniaa
set_option linter.unusedSimpArgs false
set_option linter.unusedVariables false
open Go.RowKit Go.Shelf

/-- How many uses are uses of one of S. -/
def inU (us : List (Int × Int)) (S : List Int) : Nat := us.countP fun u => S.contains u.1
theorem inU_snoc (us : List (Int × Int)) (S : List Int) (x : Int) (h : x ∉ S) : ((inU us (S ++ [x]) : Nat) : Int) = inU us S + countU us x := by
  unfold inU countU
  induction us with
  | nil => rfl
  | cons u us ih =>
    simp only [List.countP_cons, Int.natCast_add] at ih ⊢
    rw [ih]
    by_cases hu : u.1 = x
    · rw [hu]
      have h1 : S.contains x = false := by simpa using h
      have h2 : (S ++ [x]).contains x = true := by simp
      rw [h1, h2]; simp; omega
    · have h1 : (S ++ [x]).contains u.1 = S.contains u.1 := by
        rw [Bool.eq_iff_iff]; simp [hu]
      rw [h1]
      simp [hu]; omega
theorem inU_le (us : List (Int × Int)) (S : List Int) : inU us S ≤ us.length := List.countP_le_length
theorem countU_nn (us : List (Int × Int)) (x : Int) : 0 ≤ countU us x ∧ countU us x ≤ us.length := by
  have := List.countP_le_length (p := fun u : Int × Int => u.1 == x) (l := us)
  unfold countU; omega
theorem check_uses {f : FuncD} (h : checkF f = 0) : ∀ u ∈ usesF f, (tyOf (valsF f) u.1).isSome = true := by
  have h2 := check_ok h
  unfold checkF at h
  rw [h2.1, h2.2] at h
  simp only [Bool.and_self, if_true] at h
  unfold usesE at h
  intro u hu
  split at h
  · cases h
  · rename_i h3
    simp only [Bool.not_eq_true, List.any_eq_false, Bool.not_eq_eq_eq_not, Bool.not_true, Bool.not_eq_false] at h3
    simpa using h3 u hu
theorem tyOf_key {T : List (Int × Int)} {x : Int} (h : (tyOf T x).isSome = true) : x ∈ T.map (·.1) := by
  obtain ⟨t, ht⟩ := Option.isSome_iff_exists.1 h
  exact List.mem_map.2 ⟨(x, t), tyOf_mem ht, rfl⟩
theorem inU_all {f : FuncD} (h : checkF f = 0) {L : List Int} (hL : IdsL f L) : inU (usesF f) L = (usesF f).length := by
  unfold inU
  rw [List.countP_eq_length]
  intro u hu
  simp only [List.contains_eq_mem, decide_eq_true_eq]
  exact ((hL.1 h).2.1 _).2 (tyOf_key (check_uses h u hu))
theorem ids_typed {f : FuncD} (h : checkF f = 0) {L : List Int} (hL : IdsL f L) {x : Int} (hx : x ∈ L) : ∃ t, tyOf (valsF f) x = some t := by
  have h1 := ((hL.1 h).2.1 x).1 hx
  obtain ⟨p, hp, rfl⟩ := List.mem_map.1 h1
  cases he : tyOf (valsF f) p.1 with
  | none => exact absurd h1 (tyOf_none.1 he)
  | some t => exact ⟨t, rfl⟩
theorem ids_pars {f : FuncD} (h : checkF f = 0) {L : List Int} (hL : IdsL f L) : f.params.length ≤ L.length := by
  rw [(hL.1 h).2.2]
  unfold valsF
  rw [List.length_append, parT_length]; omega
theorem take_no {L : List Int} (h : Rise L) {k : Nat} {x : Int} (hx : L[k]? = some x) : x ∉ L.take k := by
  intro hm
  obtain ⟨j, hj⟩ := List.mem_iff_getElem?.1 hm
  rw [List.getElem?_take] at hj
  split at hj
  · rename_i hjk
    have := h.lt hj hx hjk; omega
  · cases hj
/-- 'Below', in a form that the macros carry on. -/
def Since (w0 W : World) : Prop := Below w0.heap.size w0 W
theorem Since.later {w0 W W' : World} (h : Since w0 W) (hb : Below W.heap.size W W') : Since w0 W' := Below.trans h (hb.mono (Below.size h))
theorem Since.alloc {w0 W : World} (h : Since w0 W) (o : Obj) : Since w0 (W.alloc o) := h.later ((Below.refl _ _).alloc (Nat.le_refl _) o)

set_option maxHeartbeats 6400000 in
set_option maxRecDepth 100000 in
theorem walkUsed {w : World} {v : Value} (f : FuncD) (hv : FuncV w v f) : Calls Try.prog 17 #[v] w fun e w' => e = .returned (.bool true) ∧ Below w.heap.size w w' := by
  have HV := Lib.hid hv
  obtain ⟨ap, cp, ab, cb, rfl, hp, ha, hc, hB⟩ := hv.form
  obtain ⟨np, hnp⟩ : ∃ np, np = f.params.length := ⟨_, rfl⟩
  obtain ⟨nb, hnb⟩ : ∃ nb, nb = f.blocks.length := ⟨_, rfl⟩
  obtain ⟨ar, har⟩ : ∃ ar, ar = f.arrays := ⟨_, rfl⟩
  obtain ⟨ce, hce⟩ : ∃ ce, ce = f.cells := ⟨_, rfl⟩
  rw [← hnp, ← hnb, ← har, ← hce] at HV ⊢
  have HNP := Lib.hid hnp
  clear hp ha hc hB hv hnp hnb har hce
  go_enter Try.func17, Try.ntmps17
  go_upto_region 1 with (fail)
  have B1 : Hid (Box (w.alloc (.cells #[.slice ap np cp, .int .i64 ar, .int .i64 ce, .slice ab nb cb] 30)) (w.heap.size) #[.slice ap np cp, .int .i64 ar, .int .i64 ce, .slice ab nb cb]) := Lib.hid (by simpa using (Box.new w #[.slice ap np cp, .int .i64 ar, .int .i64 ce, .slice ab nb cb] 30))
  have HW : Hid (Below w.heap.size w (w.alloc (.cells #[.slice ap np cp, .int .i64 ar, .int .i64 ce, .slice ab nb cb] 30))) := Lib.hid ((Below.refl _ _).alloc (Nat.le_refl _) _)
  generalize (w.alloc (.cells #[.slice ap np cp, .int .i64 ar, .int .i64 ce, .slice ab nb cb] 30)) = wv at *
  obtain ⟨lB1, cB1, fB1⟩ := B1.out
  go_wp2_with fail
  refine (irIds (HV.out.below HW.out)).mono ?_
  rintro e w3 ⟨ui, L, rfl, hui, hb3, hL⟩
  have HUI := Lib.hid hui
  obtain ⟨ia, ic, rfl⟩ := hui.ints.form
  obtain ⟨nl, hnl⟩ : ∃ nl, nl = L.length := ⟨_, rfl⟩
  rw [← hnl]
  have HNL := Lib.hid hnl
  have HL := Lib.hid hL
  have hll : nl ≤ 17592186044416 := hnl ▸ hui.le
  clear hui hL hnl
  clear lB1 cB1 fB1
  replace B1 := Lib.hid (B1.out.later hb3)
  replace HW := Lib.hid (HW.out.trans (hb3.mono HW.out.size))
  clear hb3
  obtain ⟨lB1, cB1, fB1⟩ := B1.out
  clear lB1 cB1 fB1
  obtain ⟨W3, HW3⟩ : ∃ W3, W3 = w3 := ⟨_, rfl⟩
  have HBB : Hid (Below W3.heap.size W3 w3) := Lib.hid (by rw [HW3]; exact Below.refl _ _)
  rw [← HW3] at HUI
  clear HW3
  obtain ⟨lB1, cB1, fB1⟩ := B1.out
  go_wp2_with fail
  refine awake1.mono ?_
  rintro e w4 ⟨rfl, hb4⟩
  replace HBB := Lib.hid (HBB.out.trans (hb4.mono HBB.out.size))
  clear lB1 cB1 fB1
  replace B1 := Lib.hid (B1.out.later hb4)
  replace HW := Lib.hid (HW.out.trans (hb4.mono HW.out.size))
  clear hb4
  obtain ⟨lB1, cB1, fB1⟩ := B1.out
  have HB4 := HBB
  clear HBB
  by_cases hc0 : checkF f = 0
  · have HC0 := Lib.hid hc0
    clear hc0
    rw [HC0.out]
    by_cases hl3 : 300 < nl
    · have h3 : decide ((300 : Int) < (nl : Int)) = true := by simp; omega
      go_wp2_with fail
      refine awake1.mono ?_
      rintro e w5 ⟨rfl, hb5⟩
      clear lB1 cB1 fB1
      replace B1 := Lib.hid (B1.out.later hb5)
      replace HW := Lib.hid (HW.out.trans (hb5.mono HW.out.size))
      clear hb5
      obtain ⟨lB1, cB1, fB1⟩ := B1.out
      go_wp2
      go_ret
      exact ⟨rfl, HW.out⟩
    · have h3 : decide ((300 : Int) < (nl : Int)) = false := by simp; omega
      have HIN := Lib.hid (inU_all HC0.out HL.out)
      have HNN := Lib.hid (uses_len HC0.out)
      have HPR := Lib.hid (ids_pars HC0.out HL.out)
      have HEV := Lib.hid (even_of (check_ok HC0.out).1)
      have HRI := Lib.hid (HL.out.1 HC0.out).1
      go_wp2_with fail
      go_loopw [5, 6] (fun a i wr => ∃ k : Nat, k ≤ nl ∧ i = .int .i64 k ∧ a = .int .i64 (inU (usesF f) (L.take k) : Nat) ∧ Below w4.heap.size w4 wr ∧ Box wr w.heap.size #[.slice ap np cp, .int .i64 ar, .int .i64 ce, .slice ab nb cb]) (fun _ i _ => nl - (intOf i).toNat)
      case atStart => exact ⟨0, Nat.zero_le _, rfl, by simp [inU], Below.refl _ _, B1.out⟩
      case round =>
        obtain ⟨k, hk, rfl, rfl, hbr, hB1⟩ := hrel
        clear lB1 cB1 fB1
        replace HW := Lib.hid (HW.out.trans (hbr.mono HW.out.size))
        replace B1 := Lib.hid hB1
        have HBR : Hid (Below W3.heap.size W3 wr) := Lib.hid (HB4.out.trans (hbr.mono HB4.out.size))
        have HBR4 : Hid (Since w4 wr) := Lib.hid hbr
        obtain ⟨c, hcc⟩ : ∃ c, c = inU (usesF f) (L.take k) := ⟨_, rfl⟩
        rw [← hcc]
        have HCC := Lib.hid hcc
        have hcle : c ≤ 2097152 := by rw [hcc]; exact Nat.le_trans (inU_le _ _) HNN.out
        clear hbr hB1 hcc
        generalize wr = wb at *


        obtain ⟨lB1, cB1, fB1⟩ := B1.out
        by_cases hlt : k < nl
        · obtain ⟨g, cap, A, hgv, hg, hbx, hA⟩ := HUI.out.box (by have := HNL.out; omega)
          cases hgv
          obtain ⟨x, hx⟩ : ∃ x, L[k]? = some x := ⟨_, List.getElem?_eq_getElem (by have := HNL.out; omega)⟩
          have HLX := Lib.hid hx
          have HAK : Hid (A[k]? = some (.int .i64 x)) := Lib.hid (by
            rw [hA k (by have := HNL.out; omega)]; simp [List.getD_eq_getElem?_getD, hx])
          have HAL := Lib.hid hA
          have B2 : Hid (Box wb g A) := Lib.hid (hbx.later HBR.out)
          have HTK := Lib.hid (take_snoc L k x hx)
          have HNO := Lib.hid (take_no HRI.out hx)
          obtain ⟨t, hty⟩ := ids_typed HC0.out HL.out (List.mem_of_getElem? hx)
          have HTY := Lib.hid hty
          have HT : Hid (typeT f x = t) := Lib.hid (by unfold typeT; rw [if_pos HC0.out, hty]; rfl)
          have HE : Hid (typeE f x = 0) := Lib.hid (by unfold typeE; rw [if_pos HC0.out, hty]; rfl)
          have HN : Hid (useN f x = countU (usesF f) x) := Lib.hid (if_pos HE.out)
          obtain ⟨u, hu⟩ : ∃ u, u = countU (usesF f) x := ⟨_, rfl⟩
          rw [← hu] at HN
          have HU := Lib.hid hu
          have hu0 : 0 ≤ u ∧ u ≤ 2097152 := by rw [hu]; have := countU_nn (usesF f) x; have := HNN.out; omega
          have HTT := Lib.hid (tyOf_types HC0.out hty)
          clear hbx hA hx hty hu
          have HCU : Hid (∀ wg, Below wb.heap.size wb wg → Calls Try.prog 54 #[.agg #[.slice ap np cp, .int .i64 ar, .int .i64 ce, .slice ab nb cb], .int .i64 x] wg fun e w' => e = .returned (.tuple #[.int .i64 u, .int .i64 0]) ∧ Below wg.heap.size wg w') :=
            Lib.hid (fun wg hbg => (irUses (HV.out.below (HW.out.trans (hbg.mono HW.out.size))) x).mono (fun e w' ⟨h1, h2⟩ => ⟨by rw [h1, HN.out, HE.out], h2⟩))
          clear lB1 cB1 fB1

          obtain ⟨lB1, cB1, fB1⟩ := B1.out
          obtain ⟨lB2, cB2, fB2⟩ := B2.out
          go_upto_region 8 with (fail)
          refine wp_region_grow 11 (fun k => match k with | 5 => .const (.tuple #[.int .i64 u, .int .i64 0]) | _ => .plain) (by kernel_rfl) (by kernel_rfl) ?_ (fun ν => ?_)
          · (intro k; (try dsimp only); split <;> first | exact True.intro | (intro u w1 w2 hu hb; exact hu.below hb))
          simp only [List.take_succ_cons, List.take_zero, List.drop_succ_cons, List.drop_zero]
          refine Grow.val (v := ?_) rfl rfl (fun wg hbg hdg => ?_) ?_
          rotate_left
          focus ((obtain ⟨lg0, cg0, fg0⟩ := B1.out.later hbg); (obtain ⟨lg1, cg1, fg1⟩ := B2.out.later hbg); (have hcx := HAK.out); clear hbg hdg; first | (go_simp; done) | (go_simp; with_reducible rfl))
          simp only [Act.put, List.setIfInBounds_toArray, List.set_cons_zero, List.set_cons_succ]
          refine Grow.val (v := ?_) rfl rfl (fun wg hbg hdg => ?_) ?_
          rotate_left
          focus ((obtain ⟨lg0, cg0, fg0⟩ := B1.out.later hbg); (obtain ⟨lg1, cg1, fg1⟩ := B2.out.later hbg); (have hcx := HAK.out); clear hbg hdg; first | (go_simp; done) | (go_simp; with_reducible rfl))
          simp only [Act.put, List.setIfInBounds_toArray, List.set_cons_zero, List.set_cons_succ]
          refine Grow.val (v := ?_) rfl rfl (fun wg hbg hdg => ?_) ?_
          rotate_left
          focus ((obtain ⟨lg0, cg0, fg0⟩ := B1.out.later hbg); (obtain ⟨lg1, cg1, fg1⟩ := B2.out.later hbg); (have hcx := HAK.out); clear hbg hdg; first | (go_simp; done) | (go_simp; with_reducible rfl))
          simp only [Act.put, List.setIfInBounds_toArray, List.set_cons_zero, List.set_cons_succ]
          refine Grow.val (v := ?_) rfl rfl (fun wg hbg hdg => ?_) ?_
          rotate_left
          focus ((obtain ⟨lg0, cg0, fg0⟩ := B1.out.later hbg); (obtain ⟨lg1, cg1, fg1⟩ := B2.out.later hbg); (have hcx := HAK.out); clear hbg hdg; first | (go_simp; done) | (go_simp; with_reducible rfl))
          simp only [Act.put, List.setIfInBounds_toArray, List.set_cons_zero, List.set_cons_succ]
          refine Grow.val (v := ?_) rfl rfl (fun wg hbg hdg => ?_) ?_
          rotate_left
          focus ((obtain ⟨lg0, cg0, fg0⟩ := B1.out.later hbg); (obtain ⟨lg1, cg1, fg1⟩ := B2.out.later hbg); (have hcx := HAK.out); clear hbg hdg; first | (go_simp; done) | (go_simp; with_reducible rfl))
          simp only [Act.put, List.setIfInBounds_toArray, List.set_cons_zero, List.set_cons_succ]
          refine Grow.call (f := ?_) (args := ?_) rfl (fun wg => ?_) (fun wg hbg hdg => ?_) ?_
          rotate_left 2
          focus (first | (go_simp; done) | (go_simp; refine And.intro ?_ ?_ <;> with_reducible rfl) | (go_simp; with_reducible rfl))
          focus exact Calls.mono (HCU.out wg hbg) (fun e w2 ⟨he, hb2⟩ => ⟨_, he, rfl, hb2⟩)
          simp only [Act.put, Known.val, List.setIfInBounds_toArray, List.set_cons_zero, List.set_cons_succ]
          refine Grow.val (v := ?_) rfl rfl (fun wg hbg hdg => ?_) ?_
          rotate_left
          focus ((obtain ⟨lg0, cg0, fg0⟩ := B1.out.later hbg); (obtain ⟨lg1, cg1, fg1⟩ := B2.out.later hbg); (have hcx := HAK.out); clear hbg hdg; first | (go_simp; done) | (go_simp; with_reducible rfl))
          simp only [Act.put, List.setIfInBounds_toArray, List.set_cons_zero, List.set_cons_succ]
          refine Grow.val (v := ?_) rfl rfl (fun wg hbg hdg => ?_) ?_
          rotate_left
          focus ((obtain ⟨lg0, cg0, fg0⟩ := B1.out.later hbg); (obtain ⟨lg1, cg1, fg1⟩ := B2.out.later hbg); (have hcx := HAK.out); clear hbg hdg; first | (go_simp; done) | (go_simp; with_reducible rfl))
          simp only [Act.put, List.setIfInBounds_toArray, List.set_cons_zero, List.set_cons_succ]
          refine Grow.val (v := ?_) rfl rfl (fun wg hbg hdg => ?_) ?_
          rotate_left
          focus ((obtain ⟨lg0, cg0, fg0⟩ := B1.out.later hbg); (obtain ⟨lg1, cg1, fg1⟩ := B2.out.later hbg); (have hcx := HAK.out); clear hbg hdg; first | (go_simp; done) | (go_simp; with_reducible rfl))
          simp only [Act.put, List.setIfInBounds_toArray, List.set_cons_zero, List.set_cons_succ]
          refine Grow.val (v := ?_) rfl rfl (fun wg hbg hdg => ?_) ?_
          rotate_left
          focus ((obtain ⟨lg0, cg0, fg0⟩ := B1.out.later hbg); (obtain ⟨lg1, cg1, fg1⟩ := B2.out.later hbg); (have hcx := HAK.out); clear hbg hdg; first | (go_simp; done) | (go_simp; with_reducible rfl))
          simp only [Act.put, List.setIfInBounds_toArray, List.set_cons_zero, List.set_cons_succ]
          refine Grow.val (v := ?_) rfl rfl (fun wg hbg hdg => ?_) ?_
          rotate_left
          focus ((obtain ⟨lg0, cg0, fg0⟩ := B1.out.later hbg); (obtain ⟨lg1, cg1, fg1⟩ := B2.out.later hbg); (have hcx := HAK.out); clear hbg hdg; first | (go_simp; done) | (go_simp; with_reducible rfl))
          simp only [Act.put, List.setIfInBounds_toArray, List.set_cons_zero, List.set_cons_succ]
          intro wg hb hf hap
          clear hap
          clear lB1 cB1 fB1 lB2 cB2 fB2
          replace B1 := Lib.hid (B1.out.later hb)
          replace B2 := Lib.hid (B2.out.later hb)
          replace HBR4 := Lib.hid (HBR4.out.later hb)
          replace HW := Lib.hid (HW.out.trans (hb.mono HW.out.size))
          clear hb
          obtain ⟨lB1, cB1, fB1⟩ := B1.out
          obtain ⟨lB2, cB2, fB2⟩ := B2.out
          clear hf HCU
          have HCT : Hid (∀ wc, Below wg.heap.size wg wc → Calls Try.prog 53 #[.agg #[.slice ap np cp, .int .i64 ar, .int .i64 ce, .slice ab nb cb], .int .i64 x] wc fun e w' => e = .returned (.tuple #[.int .i64 t, .int .i64 0]) ∧ Below wc.heap.size wc w') :=
            Lib.hid (fun wc hbc => (irTypeOf (HV.out.below (HW.out.trans (hbc.mono HW.out.size))) x).mono (fun e w' ⟨h1, h2⟩ => ⟨by rw [h1, HT.out, HE.out], h2⟩))
          go_upto_region 9 with (fail)
          generalize wg = wh at *
          refine wp_region_grow 11 (fun k => match k with | 5 => .const (.tuple #[.int .i64 t, .int .i64 0]) | _ => .plain) (by kernel_rfl) (by kernel_rfl) ?_ (fun ν => ?_)
          · (intro k; (try dsimp only); split <;> first | exact True.intro | (intro u w1 w2 hu hb; exact hu.below hb))
          simp only [List.take_succ_cons, List.take_zero, List.drop_succ_cons, List.drop_zero]
          refine Grow.val (v := ?_) rfl rfl (fun wg hbg hdg => ?_) ?_
          rotate_left
          focus ((obtain ⟨lg0, cg0, fg0⟩ := B1.out.later hbg); (obtain ⟨lg1, cg1, fg1⟩ := B2.out.later hbg); (have hcx := HAK.out); clear hbg hdg; first | (go_simp; done) | (go_simp; with_reducible rfl))
          simp only [Act.put, List.setIfInBounds_toArray, List.set_cons_zero, List.set_cons_succ]
          refine Grow.val (v := ?_) rfl rfl (fun wg hbg hdg => ?_) ?_
          rotate_left
          focus ((obtain ⟨lg0, cg0, fg0⟩ := B1.out.later hbg); (obtain ⟨lg1, cg1, fg1⟩ := B2.out.later hbg); (have hcx := HAK.out); clear hbg hdg; first | (go_simp; done) | (go_simp; with_reducible rfl))
          simp only [Act.put, List.setIfInBounds_toArray, List.set_cons_zero, List.set_cons_succ]
          refine Grow.val (v := ?_) rfl rfl (fun wg hbg hdg => ?_) ?_
          rotate_left
          focus ((obtain ⟨lg0, cg0, fg0⟩ := B1.out.later hbg); (obtain ⟨lg1, cg1, fg1⟩ := B2.out.later hbg); (have hcx := HAK.out); clear hbg hdg; first | (go_simp; done) | (go_simp; with_reducible rfl))
          simp only [Act.put, List.setIfInBounds_toArray, List.set_cons_zero, List.set_cons_succ]
          refine Grow.val (v := ?_) rfl rfl (fun wg hbg hdg => ?_) ?_
          rotate_left
          focus ((obtain ⟨lg0, cg0, fg0⟩ := B1.out.later hbg); (obtain ⟨lg1, cg1, fg1⟩ := B2.out.later hbg); (have hcx := HAK.out); clear hbg hdg; first | (go_simp; done) | (go_simp; with_reducible rfl))
          simp only [Act.put, List.setIfInBounds_toArray, List.set_cons_zero, List.set_cons_succ]
          refine Grow.val (v := ?_) rfl rfl (fun wg hbg hdg => ?_) ?_
          rotate_left
          focus ((obtain ⟨lg0, cg0, fg0⟩ := B1.out.later hbg); (obtain ⟨lg1, cg1, fg1⟩ := B2.out.later hbg); (have hcx := HAK.out); clear hbg hdg; first | (go_simp; done) | (go_simp; with_reducible rfl))
          simp only [Act.put, List.setIfInBounds_toArray, List.set_cons_zero, List.set_cons_succ]
          refine Grow.call (f := ?_) (args := ?_) rfl (fun wg => ?_) (fun wg hbg hdg => ?_) ?_
          rotate_left 2
          focus (first | (go_simp; done) | (go_simp; refine And.intro ?_ ?_ <;> with_reducible rfl) | (go_simp; with_reducible rfl))
          focus exact Calls.mono (HCT.out wg hbg) (fun e w2 ⟨he, hb2⟩ => ⟨_, he, rfl, hb2⟩)
          simp only [Act.put, Known.val, List.setIfInBounds_toArray, List.set_cons_zero, List.set_cons_succ]
          refine Grow.val (v := ?_) rfl rfl (fun wg hbg hdg => ?_) ?_
          rotate_left
          focus ((obtain ⟨lg0, cg0, fg0⟩ := B1.out.later hbg); (obtain ⟨lg1, cg1, fg1⟩ := B2.out.later hbg); (have hcx := HAK.out); clear hbg hdg; first | (go_simp; done) | (go_simp; with_reducible rfl))
          simp only [Act.put, List.setIfInBounds_toArray, List.set_cons_zero, List.set_cons_succ]
          refine Grow.val (v := ?_) rfl rfl (fun wg hbg hdg => ?_) ?_
          rotate_left
          focus ((obtain ⟨lg0, cg0, fg0⟩ := B1.out.later hbg); (obtain ⟨lg1, cg1, fg1⟩ := B2.out.later hbg); (have hcx := HAK.out); clear hbg hdg; first | (go_simp; done) | (go_simp; with_reducible rfl))
          simp only [Act.put, List.setIfInBounds_toArray, List.set_cons_zero, List.set_cons_succ]
          refine Grow.val (v := ?_) rfl rfl (fun wg hbg hdg => ?_) ?_
          rotate_left
          focus ((obtain ⟨lg0, cg0, fg0⟩ := B1.out.later hbg); (obtain ⟨lg1, cg1, fg1⟩ := B2.out.later hbg); (have hcx := HAK.out); clear hbg hdg; first | (go_simp; done) | (go_simp; with_reducible rfl))
          simp only [Act.put, List.setIfInBounds_toArray, List.set_cons_zero, List.set_cons_succ]
          refine Grow.val (v := ?_) rfl rfl (fun wg hbg hdg => ?_) ?_
          rotate_left
          focus ((obtain ⟨lg0, cg0, fg0⟩ := B1.out.later hbg); (obtain ⟨lg1, cg1, fg1⟩ := B2.out.later hbg); (have hcx := HAK.out); clear hbg hdg; first | (go_simp; done) | (go_simp; with_reducible rfl))
          simp only [Act.put, List.setIfInBounds_toArray, List.set_cons_zero, List.set_cons_succ]
          refine Grow.val (v := ?_) rfl rfl (fun wg hbg hdg => ?_) ?_
          rotate_left
          focus ((obtain ⟨lg0, cg0, fg0⟩ := B1.out.later hbg); (obtain ⟨lg1, cg1, fg1⟩ := B2.out.later hbg); (have hcx := HAK.out); clear hbg hdg; first | (go_simp; done) | (go_simp; with_reducible rfl))
          simp only [Act.put, List.setIfInBounds_toArray, List.set_cons_zero, List.set_cons_succ]
          intro wg hb hf hap
          clear hap
          clear lB1 cB1 fB1 lB2 cB2 fB2
          replace B1 := Lib.hid (B1.out.later hb)
          replace B2 := Lib.hid (B2.out.later hb)
          replace HBR4 := Lib.hid (HBR4.out.later hb)
          replace HW := Lib.hid (HW.out.trans (hb.mono HW.out.size))
          clear hb
          obtain ⟨lB1, cB1, fB1⟩ := B1.out
          obtain ⟨lB2, cB2, fB2⟩ := B2.out
          clear hf HCT
          have hneg : decide (u < 0) = false := by simp; omega
          have hsum : (c : Int) + u = ((inU (usesF f) (L.take (k + 1)) : Nat) : Int) := by
            have h1 := inU_snoc (usesF f) (L.take k) x HNO.out
            rw [← HTK.out, ← HCC.out, ← HU.out] at h1
            rw [h1]
          obtain ⟨d, hd⟩ : ∃ d, d = inU (usesF f) (L.take (k + 1)) := ⟨_, rfl⟩
          rw [← hd] at hsum
          have HD := Lib.hid hd
          clear hd
          have HSUM := Lib.hid hsum
          clear hsum
          have hak := HAK.out
          rcases HTT.out with rfl | rfl
          all_goals
            by_cases hk0 : k = 0
            · subst hk0
              go_upto_region 10 with (fail)
              go_quiet (fail)
              go_wp2
              go_roundw
              case rel => exact ⟨0 + 1, hlt, by go_num, by rw [← HD.out, HSUM.out], below_drewN HBR4.out _, B1.out.drewN _⟩
              case measure => simp [intOf]; omega
            · obtain ⟨j, rfl⟩ : ∃ j, k = j + 1 := ⟨k - 1, by omega⟩
              obtain ⟨y, hy⟩ : ∃ y, L[j]? = some y := ⟨_, List.getElem?_eq_getElem (by have := HNL.out; omega)⟩
              have haj : A[j]? = some (.int .i64 y) := by
                rw [HAL.out j (by have := HNL.out; omega)]; simp [List.getD_eq_getElem?_getD, hy]
              have hle : decide (x ≤ y) = false := by have := HRI.out.lt hy HLX.out (by omega); simp; omega
              have hm1 : IntKind.i64.wrap (((j + 1 : Nat) : Int) - 1) = (j : Int) := by rw [i64_wrap]; unfold wrap64; omega
              have hgt : decide ((0 : Int) < ((j + 1 : Nat) : Int)) = true := by simp
              have HY := Lib.hid hy
              clear hy
              go_upto_region 10 with (fail)
              go_quiet (fail)
              go_wp2
              go_roundw
              case rel => exact ⟨j + 1 + 1, hlt, by go_num, by rw [← HD.out, HSUM.out], below_drewN HBR4.out _, B1.out.drewN _⟩
              case measure => simp [intOf]; omega
        · obtain rfl : k = nl := by omega
          have HCA : Hid ((c : Int) = ((uxF f).length : Nat)) := Lib.hid (by
            rw [HCC.out, List.take_of_length_le (by have := HNL.out; omega), HIN.out, ← ux_pairs HEV.out, List.length_map])
          go_wp2_with fail
          refine (refUses (HV.out.below HW.out) HEV.out).mono ?_
          rintro e w9 ⟨u3, rfl, hu3, hb9⟩
          obtain ⟨xa, xc, rfl⟩ := own_nil hu3
          clear hu3
          clear lB1 cB1 fB1
          replace B1 := Lib.hid (B1.out.later hb9)
          replace HBR4 := Lib.hid (HBR4.out.later hb9)
          replace HW := Lib.hid (HW.out.trans (hb9.mono HW.out.size))
          clear hb9
          obtain ⟨lB1, cB1, fB1⟩ := B1.out
          have hce : ((c : Int) == ((uxF f).length : Nat)) = true := by rw [HCA.out]; simp
          have hge : decide ((np : Int) ≤ (k : Int)) = true := by have := HPR.out; have := HNP.out; have := HNL.out; simp; omega
          go_wp2
          go_ret
          refine ⟨?_, HW.out⟩
          simp
          have := HPR.out; have := HNP.out; have := HNL.out; omega
  · have h2 : (checkF f != 0) = true := by simpa using hc0
    go_wp2_with fail
    refine awake1.mono ?_
    rintro e w5 ⟨rfl, hb5⟩
    clear lB1 cB1 fB1
    replace B1 := Lib.hid (B1.out.later hb5)
    replace HW := Lib.hid (HW.out.trans (hb5.mono HW.out.size))
    clear hb5
    obtain ⟨lB1, cB1, fB1⟩ := B1.out
    go_wp2
    go_ret
    exact ⟨rfl, HW.out⟩
end Go.Proofs.Ytefpmjnimnmniaa
