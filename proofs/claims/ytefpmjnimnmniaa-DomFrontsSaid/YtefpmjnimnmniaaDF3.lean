/- dom.Frontiers; DomChains: the law. -/
import Derived.Test.YtefpmjnimnmniaaDF2
namespace Go.Proofs.Ytefpmjnimnmniaa
set_option linter.unusedSimpArgs false
set_option linter.unusedVariables false
open Go.RowKit

def DFrR (f : FuncD) (w : World) (e : Ending) (w' : World) : Prop :=
  ∃ (fv : Value) (L : List (List Nat)), e = .returned (.tuple #[fv, .int .i64 (checkF f)]) ∧ Lists w' fv (L.map natI) ∧ (checkF f = 0 → FrDone f L) ∧ (checkF f ≠ 0 → L = []) ∧ Below w.heap.size w w'
set_option maxHeartbeats 3200000 in
theorem domFrontiers {w : World} {v : Value} {f : FuncD} (hv : FuncV w v f) : Calls Try.prog 49 #[v] w (DFrR f w) := by
  have HV := Lib.hid hv
  obtain ⟨ap, cp, ab, cb, rfl, hp, ha, hc, hB⟩ := hv.form
  clear hp ha hc hB hv
  go_enter Try.func49, Try.ntmps49
  go_upto_region 1 with (fail)
  have B1 : Hid (Box (w.alloc (.cells #[.slice ap f.params.length cp, .int .i64 f.arrays, .int .i64 f.cells, .slice ab f.blocks.length cb] 30)) (w.heap.size) #[.slice ap f.params.length cp, .int .i64 f.arrays, .int .i64 f.cells, .slice ab f.blocks.length cb]) := Lib.hid (by simpa using (Box.new w #[.slice ap f.params.length cp, .int .i64 f.arrays, .int .i64 f.cells, .slice ab f.blocks.length cb] 30))
  have HW : Hid (Below w.heap.size w (w.alloc (.cells #[.slice ap f.params.length cp, .int .i64 f.arrays, .int .i64 f.cells, .slice ab f.blocks.length cb] 30))) := Lib.hid ((Below.refl _ _).alloc (Nat.le_refl _) _)
  generalize (w.alloc (.cells #[.slice ap f.params.length cp, .int .i64 f.arrays, .int .i64 f.cells, .slice ab f.blocks.length cb] 30)) = wv at *
  obtain ⟨lB1, cB1, fB1⟩ := B1.out
  go_wp2_with fail
  refine (domOpen (HV.out.below HW.out)).mono ?_
  rintro e w2 ⟨hb, ⟨hc0, rfl⟩ | ⟨hc0, bt, bg, lg, lcap, g, pv, ov, lv, O, I, rfl, hvg, hO, hT, hD⟩⟩
  · have hc1 : (checkF f != 0) = true := by simpa using hc0
    have HC0 := Lib.hid hc0
    clear hc0
    clear lB1 cB1 fB1
    replace B1 := Lib.hid (B1.out.later hb)
    replace HW := Lib.hid (HW.out.trans (hb.mono HW.out.size))
    clear hb
    obtain ⟨lB1, cB1, fB1⟩ := B1.out
    go_wp2
    go_ret2
    exact ⟨_, [], rfl, lists_nil, fun h => absurd h HC0.out, fun _ => rfl, HW.out⟩
  · have HC0 := Lib.hid hc0
    injection hvg with hvg
    subst hvg
    have HFR := Lib.hid (treeFronts hT hO hD (check_fine hc0).1)
    clear hc0 hO hT hD
    clear lB1 cB1 fB1
    replace B1 := Lib.hid (B1.out.later hb)
    replace HW := Lib.hid (HW.out.trans (hb.mono HW.out.size))
    clear hb
    obtain ⟨lB1, cB1, fB1⟩ := B1.out
    go_wp2_with fail
    refine HFR.out.mono ?_
    rintro e w3 ⟨fv, L, rfl, hL, hd, hb⟩
    have HL := Lib.hid hL
    have HDN := Lib.hid hd
    clear hL hd HFR
    clear lB1 cB1 fB1
    replace B1 := Lib.hid (B1.out.later hb)
    replace HW := Lib.hid (HW.out.trans (hb.mono HW.out.size))
    clear hb
    obtain ⟨lB1, cB1, fB1⟩ := B1.out
    go_wp2
    go_ret2
    exact ⟨_, L, by rw [HC0.out]; rfl, HL.out, fun _ => HDN.out, fun h => absurd HC0.out h, HW.out⟩
theorem idom_near {f : FuncD} {O : List Nat} {I : Nat → Option Nat} (hO : IsOrder f O) (hD : DomI f O I) {x y : Nat} (h : OverP f x y) (hne : x ≠ y) : ∃ q, I y = some q ∧ q < f.blocks.length ∧ OverP f x q := by
  rcases ((hD.over h.2.1).2 h).parts with e | ⟨q, hq, hxq⟩
  · exact absurd e hne
  · exact ⟨q, hq, hD.low hO hq, (hD.over (hD.tree.par hq).2.1).1 hxq⟩
set_option maxHeartbeats 12800000 in
set_option maxRecDepth 100000 in
theorem walkChains {w : World} {v : Value} (f : FuncD) {a b : Int} (hv : FuncV w v f) (ha : 0 ≤ a ∧ a ≤ 65535) (hb : 0 ≤ b ∧ b ≤ 65535) :
    Calls Try.prog 15 #[v, .int .u16 a, .int .u16 b] w fun e w' => e = .returned (.bool true) ∧ Below w.heap.size w w' := by
  have HV := Lib.hid hv
  obtain ⟨ap, cp, ab, cb, rfl, hp, -, -, hB⟩ := hv.form
  have HBP : Hid (checkF f = 0 → 1 ≤ f.blocks.length) := Lib.hid (fun h => (formB_nb (check_fine h).1).1)
  have hnbig : f.blocks.length ≤ 17592186044416 := by
    obtain ⟨cs, h1, _⟩ := hB
    exact h1.big
  obtain ⟨nb, hnb⟩ : ∃ nb, nb = f.blocks.length := ⟨_, rfl⟩
  rw [← hnb] at HV hnbig ⊢
  have HNB := Lib.hid hnb
  obtain ⟨an, rfl⟩ : ∃ an : Nat, a = (an : Int) := ⟨a.toNat, by omega⟩
  obtain ⟨bn, rfl⟩ : ∃ bn : Nat, b = (bn : Int) := ⟨b.toNat, by omega⟩
  clear hp hB hv hnb
  go_enter Try.func15, Try.ntmps15
  go_upto_region 1 with (fail)
  have B1 : Hid (Box (w.alloc (.cells #[.slice ap f.params.length cp, .int .i64 f.arrays, .int .i64 f.cells, .slice ab nb cb] 30)) (w.heap.size) #[.slice ap f.params.length cp, .int .i64 f.arrays, .int .i64 f.cells, .slice ab nb cb]) := Lib.hid (by simpa using (Box.new w #[.slice ap f.params.length cp, .int .i64 f.arrays, .int .i64 f.cells, .slice ab nb cb] 30))
  have HW : Hid (Below w.heap.size w (w.alloc (.cells #[.slice ap f.params.length cp, .int .i64 f.arrays, .int .i64 f.cells, .slice ab nb cb] 30))) := Lib.hid ((Below.refl _ _).alloc (Nat.le_refl _) _)
  generalize (w.alloc (.cells #[.slice ap f.params.length cp, .int .i64 f.arrays, .int .i64 f.cells, .slice ab nb cb] 30)) = wv at *
  obtain ⟨lB1, cB1, fB1⟩ := B1.out
  go_wp2_with fail
  refine (domIdoms (HV.out.below HW.out)).mono ?_
  rintro e w2 ⟨dv, D, rfl, hD, hI, -, hb⟩
  obtain ⟨da, dc, rfl⟩ := hD.form
  have HD := Lib.hid hD
  have HI := Lib.hid hI
  clear hD hI
  clear lB1 cB1 fB1
  replace B1 := Lib.hid (B1.out.later hb)
  replace HW := Lib.hid (HW.out.trans (hb.mono HW.out.size))
  clear hb
  obtain ⟨lB1, cB1, fB1⟩ := B1.out
  go_wp2_with fail
  refine (domFrontiers (HV.out.below HW.out)).mono ?_
  rintro e w3 ⟨fv, L, rfl, hL, hFD, -, hb⟩
  replace HD := Lib.hid (HD.out.below hb)
  have HL := Lib.hid hL
  have HFD := Lib.hid hFD
  obtain ⟨fa, fc, rfl⟩ : ∃ a c, fv = .slice a (L.map natI).length c := by obtain ⟨vs, a, c, b, o, e, _⟩ := hL.parts; exact ⟨a, c, e⟩
  clear hL hFD
  clear lB1 cB1 fB1
  replace B1 := Lib.hid (B1.out.later hb)
  replace HW := Lib.hid (HW.out.trans (hb.mono HW.out.size))
  clear hb
  obtain ⟨lB1, cB1, fB1⟩ := B1.out
  obtain ⟨W3, hW3⟩ : ∃ W3, W3 = w3 := ⟨_, rfl⟩
  have HS : Hid (Since W3 w3) := Lib.hid (by rw [hW3]; exact Below.refl _ _)
  rw [← hW3] at HD HL
  have HD : Hid (Ints W3 (.slice da D.length dc) D) := HD
  have HL : Hid (Lists W3 (.slice fa (L.map natI).length fc) (L.map natI)) := HL
  clear hW3

  go_wp2_with fail
  refine awake4.mono ?_
  rintro e w4 ⟨rfl, hb⟩
  clear lB1 cB1 fB1
  replace B1 := Lib.hid (B1.out.later hb)
  replace HS := Lib.hid (HS.out.later hb)
  replace HW := Lib.hid (HW.out.trans (hb.mono HW.out.size))
  clear hb
  obtain ⟨lB1, cB1, fB1⟩ := B1.out
  by_cases hgo : checkF f = 0 ∧ nb ≤ 200
  · obtain ⟨hc0, h200⟩ := hgo
    have hn1 := HBP.out hc0
    rw [← HNB.out] at hn1
    have hc1 : (checkF f != 0) = false := by simpa using hc0
    have hg2 : ¬ (200 : Int) < (nb : Int) := by omega
    have HC0 := Lib.hid hc0
    obtain ⟨O, I, hO, hDI, hDe⟩ := HI.out hc0
    have HO := Lib.hid hO
    have HDI := Lib.hid hDI
    obtain ⟨x, hx⟩ : ∃ x, x = an % nb := ⟨_, rfl⟩
    obtain ⟨y, hy⟩ : ∃ y, y = bn % nb := ⟨_, rfl⟩
    have hxl : x < nb := by rw [hx]; exact Nat.mod_lt _ (by omega)
    have hyl : y < nb := by rw [hy]; exact Nat.mod_lt _ (by omega)
    have rx : Int.tmod (an : Int) (nb : Int) = (x : Int) := by rw [hx]; rfl
    have ry : Int.tmod (bn : Int) (nb : Int) = (y : Int) := by rw [hy]; rfl
    have hn0 : ((nb : Int) == 0) = false := by simp; omega
    -- the two answers' cells
    have hDl : D.length = nb := by rw [hDe, encI_len, HNB.out]
    have hFDN := HFD.out hc0
    have hLl : (L.map natI).length = nb := by rw [List.length_map, hFDN.1, HNB.out]
    obtain ⟨d1, d2, db0, do0, hde, -, -, hdb, hdx⟩ := HD.out.parts
    obtain ⟨vs, l1, l2, lb0, lo0, hle, -, -, -, hlb, hlx, hly⟩ := HL.out.parts
    cases hde
    cases hle
    obtain ⟨rfl, hdb2⟩ := hdb (by omega)
    obtain ⟨rfl, hlb2⟩ := hlb (by omega)
    obtain ⟨fl, hfl⟩ : ∃ l, L[x]? = some l := ⟨_, List.getElem?_eq_getElem (by rw [hFDN.1, ← HNB.out]; exact hxl)⟩
    have hFX := (hFDN.2 x fl hfl).2
    have hlcx := hlx x (by rw [hLl]; exact hxl)
    have hlix := hly x (by rw [hLl]; exact hxl)
    rw [show (L.map natI).getD x [] = natI fl by rw [List.getD_eq_getElem?_getD, List.getElem?_map, hfl]; rfl] at hlix
    obtain ⟨ra, rc, rb, ro, hre, hrc, hrm, hra, hrx⟩ := hlix.parts
    rw [hre] at hlcx
    obtain ⟨rl, hrl⟩ : ∃ rl, rl = fl.length := ⟨_, rfl⟩
    rw [natI_len, ← hrl] at hlcx hrc hra
    have hdy := hdx y (by rw [hDl]; exact hyl)
    have HDY : Hid (∀ q, I y = some q → W3.cell? ⟨db0, do0 + y, none⟩ = some (.int .i64 q)) := Lib.hid (fun q hq => by
      rw [hdy, List.getD_eq_getElem?_getD, hDe, encI_some (by rw [← HNB.out]; exact hyl) hq]; rfl)
    have HLC := Lib.hid hlcx
    have HRX := Lib.hid hrx
    have HRA := Lib.hid hra
    have HFX := Lib.hid hFX
    have HRL := Lib.hid hrl
    have hrbig : rl ≤ 17592186044416 := by have := hlix.le; rw [natI_len] at this; omega
    rw [hDl, show L.length = nb by rw [hFDN.1, HNB.out]]
    have HDOM : Hid (∀ (W : World) (z : Nat), Below w.heap.size w W → z < nb → Calls Try.prog 37 #[.agg #[.slice ap f.params.length cp, .int .i64 f.arrays, .int .i64 f.cells, .slice ab nb cb], .int .i64 x, .int .i64 z] W fun e w' => ∃ c : Bool, e = .returned (.tuple #[.bool c, .int .i64 0]) ∧ (c = true ↔ OverP f x z) ∧ Below W.heap.size W w') := Lib.hid (fun W z hW hz => by
      refine (domDominates (a := (x : Int)) (b := (z : Int)) (HV.out.below hW)).mono ?_
      rintro e w' ⟨r, g, rfl, -, -, hr, hb⟩
      obtain ⟨rfl, hs⟩ := hr HC0.out ⟨by omega, by omega, by rw [← HNB.out]; omega, by rw [← HNB.out]; omega⟩
      simp only [Int.toNat_natCast] at hs
      exact ⟨r, rfl, hs, hb⟩)
    have HDC : Hid (∀ (W : World) (z : Nat) (c : Bool), Below w.heap.size w W → z < nb → (c = true ↔ OverP f x z) → Calls Try.prog 37 #[.agg #[.slice ap f.params.length cp, .int .i64 f.arrays, .int .i64 f.cells, .slice ab nb cb], .int .i64 x, .int .i64 z] W fun e w' => e = .returned (.tuple #[.bool c, .int .i64 0]) ∧ Below W.heap.size W w') := Lib.hid (fun W z c hW hz hc => by
      refine (HDOM.out W z hW hz).mono ?_
      rintro e w' ⟨c2, rfl, hc2, hb⟩
      obtain rfl : c2 = c := by rw [Bool.eq_iff_iff, hc2, hc]
      exact ⟨rfl, hb⟩)
    clear hc0 hO hDI hx hy hDe hDl hFDN hLl hdb hdx hlb hlx hly hfl hFX hlcx hlix hre hrx hra hrl hdy hrc HD HL
    go_upto_region 6 with (fail)
    go_quiet (fail)
    go_wp2_with fail
    refine (HDOM.out _ y (below_drewN HW.out _) hyl).mono ?_
    rintro e w5 ⟨c, rfl, hcc, hb5⟩
    have hb1 := (B1.out.drewN _).later hb5
    have hw1 := (below_drewN HW.out _).trans (hb5.mono (below_drewN HW.out _).size)
    have hs1 := Since.later (below_drewN HS.out _) hb5
    have HCC := Lib.hid hcc
    clear lB1 cB1 fB1
    replace HW := Lib.hid hw1
    replace B1 := Lib.hid hb1
    replace HS := Lib.hid hs1
    clear hb1 hw1 hs1 hb5 hcc rx ry

    obtain ⟨lB1, cB1, fB1⟩ := B1.out
    by_cases hgt : c = true ∧ x ≠ y
    · obtain ⟨rfl, hne⟩ := hgt
      have hxy : ((x : Int) != (y : Int)) = true := by simp; omega
      obtain ⟨q, hq, hql, hqo⟩ := idom_near HO.out HDI.out (HCC.out.1 rfl) hne
      rw [← HNB.out] at hql
      have HQO := Lib.hid hqo
      have CD := Lib.hid ((Below.cell HS.out (p := ⟨db0, do0 + y, none⟩) hdb2).trans (HDY.out q hq))
      have CDl := World.block_lt_of_cell? w5 _ CD.out
      clear hne hq hqo
      go_upto_region 9 with (fail)
      refine wp_region_grow 12 (fun kz => match kz with | 6 => .const (.tuple #[.bool true, .int .i64 0]) | _ => .plain) (by kernel_rfl) (by kernel_rfl) ?_ (fun ν => ?_)
      · (intro k; (try dsimp only); split <;> first | exact True.intro | (intro u w1 w2 hu hb; exact hu.below hb))
      simp only [List.take_succ_cons, List.take_zero, List.drop_succ_cons, List.drop_zero]
      refine Grow.val (v := ?_) rfl rfl (fun wg hbg hdg => ?_) ?_
      rotate_left
      focus ((obtain ⟨lg0, cg0, fg0⟩ := B1.out.later hbg); (have hcd := (hbg.cell (p := ⟨db0, do0 + y, none⟩) CDl).trans CD.out); clear hbg hdg; first | (go_simp; done) | (go_simp; with_reducible rfl))
      simp only [Act.put, List.setIfInBounds_toArray, List.set_cons_zero, List.set_cons_succ]
      refine Grow.val (v := ?_) rfl rfl (fun wg hbg hdg => ?_) ?_
      rotate_left
      focus ((obtain ⟨lg0, cg0, fg0⟩ := B1.out.later hbg); (have hcd := (hbg.cell (p := ⟨db0, do0 + y, none⟩) CDl).trans CD.out); clear hbg hdg; first | (go_simp; done) | (go_simp; with_reducible rfl))
      simp only [Act.put, List.setIfInBounds_toArray, List.set_cons_zero, List.set_cons_succ]
      refine Grow.val (v := ?_) rfl rfl (fun wg hbg hdg => ?_) ?_
      rotate_left
      focus ((obtain ⟨lg0, cg0, fg0⟩ := B1.out.later hbg); (have hcd := (hbg.cell (p := ⟨db0, do0 + y, none⟩) CDl).trans CD.out); clear hbg hdg; first | (go_simp; done) | (go_simp; with_reducible rfl))
      simp only [Act.put, List.setIfInBounds_toArray, List.set_cons_zero, List.set_cons_succ]
      refine Grow.val (v := ?_) rfl rfl (fun wg hbg hdg => ?_) ?_
      rotate_left
      focus ((obtain ⟨lg0, cg0, fg0⟩ := B1.out.later hbg); (have hcd := (hbg.cell (p := ⟨db0, do0 + y, none⟩) CDl).trans CD.out); clear hbg hdg; first | (go_simp; done) | (go_simp; with_reducible rfl))
      simp only [Act.put, List.setIfInBounds_toArray, List.set_cons_zero, List.set_cons_succ]
      refine Grow.val (v := ?_) rfl rfl (fun wg hbg hdg => ?_) ?_
      rotate_left
      focus ((obtain ⟨lg0, cg0, fg0⟩ := B1.out.later hbg); (have hcd := (hbg.cell (p := ⟨db0, do0 + y, none⟩) CDl).trans CD.out); clear hbg hdg; first | (go_simp; done) | (go_simp; with_reducible rfl))
      simp only [Act.put, List.setIfInBounds_toArray, List.set_cons_zero, List.set_cons_succ]
      refine Grow.val (v := ?_) rfl rfl (fun wg hbg hdg => ?_) ?_
      rotate_left
      focus ((obtain ⟨lg0, cg0, fg0⟩ := B1.out.later hbg); (have hcd := (hbg.cell (p := ⟨db0, do0 + y, none⟩) CDl).trans CD.out); clear hbg hdg; first | (go_simp; done) | (go_simp; with_reducible rfl))
      simp only [Act.put, List.setIfInBounds_toArray, List.set_cons_zero, List.set_cons_succ]
      refine Grow.call (f := ?_) (args := ?_) rfl (fun wg => ?_) (fun wg hbg hdg => ?_) ?_
      rotate_left 2
      focus (first | (go_simp; done) | (go_simp; refine And.intro ?_ ?_ <;> with_reducible rfl) | (go_simp; with_reducible rfl))
      focus exact Calls.mono (HDC.out wg q true (HW.out.trans (hbg.mono HW.out.size)) hql ⟨fun _ => HQO.out, fun _ => rfl⟩) (fun e w2 ⟨he, hb2⟩ => ⟨_, he, rfl, hb2⟩)
      simp only [Act.put, Known.val, List.setIfInBounds_toArray, List.set_cons_zero, List.set_cons_succ]
      refine Grow.val (v := ?_) rfl rfl (fun wg hbg hdg => ?_) ?_
      rotate_left
      focus ((obtain ⟨lg0, cg0, fg0⟩ := B1.out.later hbg); (have hcd := (hbg.cell (p := ⟨db0, do0 + y, none⟩) CDl).trans CD.out); clear hbg hdg; first | (go_simp; done) | (go_simp; with_reducible rfl))
      simp only [Act.put, List.setIfInBounds_toArray, List.set_cons_zero, List.set_cons_succ]
      refine Grow.val (v := ?_) rfl rfl (fun wg hbg hdg => ?_) ?_
      rotate_left
      focus ((obtain ⟨lg0, cg0, fg0⟩ := B1.out.later hbg); (have hcd := (hbg.cell (p := ⟨db0, do0 + y, none⟩) CDl).trans CD.out); clear hbg hdg; first | (go_simp; done) | (go_simp; with_reducible rfl))
      simp only [Act.put, List.setIfInBounds_toArray, List.set_cons_zero, List.set_cons_succ]
      refine Grow.val (v := ?_) rfl rfl (fun wg hbg hdg => ?_) ?_
      rotate_left
      focus ((obtain ⟨lg0, cg0, fg0⟩ := B1.out.later hbg); (have hcd := (hbg.cell (p := ⟨db0, do0 + y, none⟩) CDl).trans CD.out); clear hbg hdg; first | (go_simp; done) | (go_simp; with_reducible rfl))
      simp only [Act.put, List.setIfInBounds_toArray, List.set_cons_zero, List.set_cons_succ]
      refine Grow.val (v := ?_) rfl rfl (fun wg hbg hdg => ?_) ?_
      rotate_left
      focus ((obtain ⟨lg0, cg0, fg0⟩ := B1.out.later hbg); (have hcd := (hbg.cell (p := ⟨db0, do0 + y, none⟩) CDl).trans CD.out); clear hbg hdg; first | (go_simp; done) | (go_simp; with_reducible rfl))
      simp only [Act.put, List.setIfInBounds_toArray, List.set_cons_zero, List.set_cons_succ]
      refine Grow.val (v := ?_) rfl rfl (fun wg hbg hdg => ?_) ?_
      rotate_left
      focus ((obtain ⟨lg0, cg0, fg0⟩ := B1.out.later hbg); (have hcd := (hbg.cell (p := ⟨db0, do0 + y, none⟩) CDl).trans CD.out); clear hbg hdg; first | (go_simp; done) | (go_simp; with_reducible rfl))
      simp only [Act.put, List.setIfInBounds_toArray, List.set_cons_zero, List.set_cons_succ]
      intro wg hb hf hap
      clear hap
      clear lB1 cB1 fB1
      replace B1 := Lib.hid (B1.out.later hb)
      replace HS := Lib.hid (HS.out.later hb)
      replace HW := Lib.hid (HW.out.trans (hb.mono HW.out.size))
      clear hb
      obtain ⟨lB1, cB1, fB1⟩ := B1.out
      clear hf
      go_wp2_with fail
      go_loopw [18] (fun iv wr => ∃ i : Nat, i ≤ rl ∧ iv = .int .i64 i ∧ Since W3 wr ∧ Below w.heap.size w wr ∧ Box wr w.heap.size #[.slice ap f.params.length cp, .int .i64 f.arrays, .int .i64 f.cells, .slice ab nb cb]) (fun iv _ => rl - (intOf iv).toNat)
      case atStart => exact ⟨0, Nat.zero_le _, rfl, HS.out, HW.out, B1.out⟩
      case round =>
        obtain ⟨i, hi, rfl, hS, hW, h1⟩ := hrel
        clear lB1 cB1 fB1
        replace HS := Lib.hid hS
        replace HW := Lib.hid hW
        replace B1 := Lib.hid h1
        clear hS hW h1
        generalize wr = w7 at *

        obtain ⟨lB1, cB1, fB1⟩ := B1.out
        have CL := Lib.hid ((Below.cell HS.out (p := ⟨lb0, lo0 + x, none⟩) hlb2).trans HLC.out)
        have cl := CL.out
        have CLl := World.block_lt_of_cell? w7 _ CL.out
        by_cases hlt : i < rl
        · obtain ⟨rfl, hrb⟩ := HRA.out (by omega)
          obtain ⟨z, hz⟩ : ∃ z, fl[i]? = some z := ⟨_, List.getElem?_eq_getElem (by have := HRL.out; omega)⟩
          have CR := Lib.hid ((Below.cell HS.out (p := ⟨rb, ro + i, none⟩) hrb).trans (HRX.out i (by rw [natI_len, ← HRL.out]; exact hlt)))
          rw [show (natI fl).getD i 0 = (z : Int) by unfold natI; rw [List.getD_eq_getElem?_getD, List.getElem?_map, hz]; rfl] at CR
          have CRl := World.block_lt_of_cell? w7 _ CR.out
          have HZV : Hid ((natI fl).getD i 0 = (z : Int)) := Lib.hid (by unfold natI; rw [List.getD_eq_getElem?_getD, List.getElem?_map, hz]; rfl)
          obtain ⟨hz1, hz2⟩ := (HFX.out z).1 (List.mem_of_getElem? hz)
          have hzl : z < nb := by rw [HNB.out]; exact hz1
          have HFZ := Lib.hid hz2
          obtain ⟨k, hk⟩ : ∃ k : Bool, k = true ↔ OverP f x z := by
            rcases Classical.em (OverP f x z) with h | h
            · exact ⟨true, by simp [h]⟩
            · exact ⟨false, by simp [h]⟩
          have HKO := Lib.hid hk
          clear hz hz1 hz2 hk
          go_upto_region 15 with (fail)
          clear cl
          refine wp_region_grow 15 (fun kz => match kz with | 9 => .const (.tuple #[.bool k, .int .i64 0]) | _ => .plain) (by kernel_rfl) (by kernel_rfl) ?_ (fun ν => ?_)
          · (intro k; (try dsimp only); split <;> first | exact True.intro | (intro u w1 w2 hu hb; exact hu.below hb))
          simp only [List.take_succ_cons, List.take_zero, List.drop_succ_cons, List.drop_zero]
          refine Grow.val (v := ?_) rfl rfl (fun wg hbg hdg => ?_) ?_
          rotate_left
          focus ((obtain ⟨lg0, cg0, fg0⟩ := B1.out.later hbg); (have hcl := (hbg.cell (p := ⟨lb0, lo0 + x, none⟩) CLl).trans CL.out; have hcr := (hbg.cell (p := ⟨rb, ro + i, none⟩) CRl).trans CR.out); clear hbg hdg; first | (go_simp; done) | (go_simp; with_reducible rfl))
          simp only [Act.put, List.setIfInBounds_toArray, List.set_cons_zero, List.set_cons_succ]
          refine Grow.val (v := ?_) rfl rfl (fun wg hbg hdg => ?_) ?_
          rotate_left
          focus ((obtain ⟨lg0, cg0, fg0⟩ := B1.out.later hbg); (have hcl := (hbg.cell (p := ⟨lb0, lo0 + x, none⟩) CLl).trans CL.out; have hcr := (hbg.cell (p := ⟨rb, ro + i, none⟩) CRl).trans CR.out); clear hbg hdg; first | (go_simp; done) | (go_simp; with_reducible rfl))
          simp only [Act.put, List.setIfInBounds_toArray, List.set_cons_zero, List.set_cons_succ]
          refine Grow.val (v := ?_) rfl rfl (fun wg hbg hdg => ?_) ?_
          rotate_left
          focus ((obtain ⟨lg0, cg0, fg0⟩ := B1.out.later hbg); (have hcl := (hbg.cell (p := ⟨lb0, lo0 + x, none⟩) CLl).trans CL.out; have hcr := (hbg.cell (p := ⟨rb, ro + i, none⟩) CRl).trans CR.out); clear hbg hdg; first | (go_simp; done) | (go_simp; with_reducible rfl))
          simp only [Act.put, List.setIfInBounds_toArray, List.set_cons_zero, List.set_cons_succ]
          refine Grow.val (v := ?_) rfl rfl (fun wg hbg hdg => ?_) ?_
          rotate_left
          focus ((obtain ⟨lg0, cg0, fg0⟩ := B1.out.later hbg); (have hcl := (hbg.cell (p := ⟨lb0, lo0 + x, none⟩) CLl).trans CL.out; have hcr := (hbg.cell (p := ⟨rb, ro + i, none⟩) CRl).trans CR.out); clear hbg hdg; first | (go_simp; done) | (go_simp; with_reducible rfl))
          simp only [Act.put, List.setIfInBounds_toArray, List.set_cons_zero, List.set_cons_succ]
          refine Grow.val (v := ?_) rfl rfl (fun wg hbg hdg => ?_) ?_
          rotate_left
          focus ((obtain ⟨lg0, cg0, fg0⟩ := B1.out.later hbg); (have hcl := (hbg.cell (p := ⟨lb0, lo0 + x, none⟩) CLl).trans CL.out; have hcr := (hbg.cell (p := ⟨rb, ro + i, none⟩) CRl).trans CR.out); clear hbg hdg; first | (go_simp; done) | (go_simp; with_reducible rfl))
          simp only [Act.put, List.setIfInBounds_toArray, List.set_cons_zero, List.set_cons_succ]
          refine Grow.val (v := ?_) rfl rfl (fun wg hbg hdg => ?_) ?_
          rotate_left
          focus ((obtain ⟨lg0, cg0, fg0⟩ := B1.out.later hbg); (have hcl := (hbg.cell (p := ⟨lb0, lo0 + x, none⟩) CLl).trans CL.out; have hcr := (hbg.cell (p := ⟨rb, ro + i, none⟩) CRl).trans CR.out); clear hbg hdg; first | (go_simp; done) | (go_simp; with_reducible rfl))
          simp only [Act.put, List.setIfInBounds_toArray, List.set_cons_zero, List.set_cons_succ]
          refine Grow.val (v := ?_) rfl rfl (fun wg hbg hdg => ?_) ?_
          rotate_left
          focus ((obtain ⟨lg0, cg0, fg0⟩ := B1.out.later hbg); (have hcl := (hbg.cell (p := ⟨lb0, lo0 + x, none⟩) CLl).trans CL.out; have hcr := (hbg.cell (p := ⟨rb, ro + i, none⟩) CRl).trans CR.out); clear hbg hdg; first | (go_simp; done) | (go_simp; with_reducible rfl))
          simp only [Act.put, List.setIfInBounds_toArray, List.set_cons_zero, List.set_cons_succ]
          refine Grow.val (v := ?_) rfl rfl (fun wg hbg hdg => ?_) ?_
          rotate_left
          focus ((obtain ⟨lg0, cg0, fg0⟩ := B1.out.later hbg); (have hcl := (hbg.cell (p := ⟨lb0, lo0 + x, none⟩) CLl).trans CL.out; have hcr := (hbg.cell (p := ⟨rb, ro + i, none⟩) CRl).trans CR.out); clear hbg hdg; first | (go_simp; done) | (go_simp; with_reducible rfl))
          simp only [Act.put, List.setIfInBounds_toArray, List.set_cons_zero, List.set_cons_succ]
          refine Grow.val (v := ?_) rfl rfl (fun wg hbg hdg => ?_) ?_
          rotate_left
          focus ((obtain ⟨lg0, cg0, fg0⟩ := B1.out.later hbg); (have hcl := (hbg.cell (p := ⟨lb0, lo0 + x, none⟩) CLl).trans CL.out; have hcr := (hbg.cell (p := ⟨rb, ro + i, none⟩) CRl).trans CR.out); clear hbg hdg; first | (go_simp; done) | (go_simp; with_reducible rfl))
          simp only [Act.put, List.setIfInBounds_toArray, List.set_cons_zero, List.set_cons_succ]
          refine Grow.call (f := ?_) (args := ?_) rfl (fun wg => ?_) (fun wg hbg hdg => ?_) ?_
          rotate_left 2
          focus (first | (go_simp; done) | (go_simp; refine And.intro ?_ ?_ <;> with_reducible rfl) | (go_simp; with_reducible rfl))
          focus exact Calls.mono (HDC.out wg z k (HW.out.trans (hbg.mono HW.out.size)) hzl HKO.out) (fun e w2 ⟨he, hb2⟩ => ⟨_, he, rfl, hb2⟩)
          simp only [Act.put, Known.val, List.setIfInBounds_toArray, List.set_cons_zero, List.set_cons_succ]
          refine Grow.val (v := ?_) rfl rfl (fun wg hbg hdg => ?_) ?_
          rotate_left
          focus ((obtain ⟨lg0, cg0, fg0⟩ := B1.out.later hbg); (have hcl := (hbg.cell (p := ⟨lb0, lo0 + x, none⟩) CLl).trans CL.out; have hcr := (hbg.cell (p := ⟨rb, ro + i, none⟩) CRl).trans CR.out); clear hbg hdg; first | (go_simp; done) | (go_simp; with_reducible rfl))
          simp only [Act.put, List.setIfInBounds_toArray, List.set_cons_zero, List.set_cons_succ]
          refine Grow.val (v := ?_) rfl rfl (fun wg hbg hdg => ?_) ?_
          rotate_left
          focus ((obtain ⟨lg0, cg0, fg0⟩ := B1.out.later hbg); (have hcl := (hbg.cell (p := ⟨lb0, lo0 + x, none⟩) CLl).trans CL.out; have hcr := (hbg.cell (p := ⟨rb, ro + i, none⟩) CRl).trans CR.out); clear hbg hdg; first | (go_simp; done) | (go_simp; with_reducible rfl))
          simp only [Act.put, List.setIfInBounds_toArray, List.set_cons_zero, List.set_cons_succ]
          refine Grow.val (v := ?_) rfl rfl (fun wg hbg hdg => ?_) ?_
          rotate_left
          focus ((obtain ⟨lg0, cg0, fg0⟩ := B1.out.later hbg); (have hcl := (hbg.cell (p := ⟨lb0, lo0 + x, none⟩) CLl).trans CL.out; have hcr := (hbg.cell (p := ⟨rb, ro + i, none⟩) CRl).trans CR.out); clear hbg hdg; first | (go_simp; done) | (go_simp; with_reducible rfl))
          simp only [Act.put, List.setIfInBounds_toArray, List.set_cons_zero, List.set_cons_succ]
          refine Grow.val (v := ?_) rfl rfl (fun wg hbg hdg => ?_) ?_
          rotate_left
          focus ((obtain ⟨lg0, cg0, fg0⟩ := B1.out.later hbg); (have hcl := (hbg.cell (p := ⟨lb0, lo0 + x, none⟩) CLl).trans CL.out; have hcr := (hbg.cell (p := ⟨rb, ro + i, none⟩) CRl).trans CR.out); clear hbg hdg; first | (go_simp; done) | (go_simp; with_reducible rfl))
          simp only [Act.put, List.setIfInBounds_toArray, List.set_cons_zero, List.set_cons_succ]
          refine Grow.val (v := ?_) rfl rfl (fun wg hbg hdg => ?_) ?_
          rotate_left
          focus ((obtain ⟨lg0, cg0, fg0⟩ := B1.out.later hbg); (have hcl := (hbg.cell (p := ⟨lb0, lo0 + x, none⟩) CLl).trans CL.out; have hcr := (hbg.cell (p := ⟨rb, ro + i, none⟩) CRl).trans CR.out); clear hbg hdg; first | (go_simp; done) | (go_simp; with_reducible rfl))
          simp only [Act.put, List.setIfInBounds_toArray, List.set_cons_zero, List.set_cons_succ]
          intro wg hb hf hap
          clear hap
          clear lB1 cB1 fB1
          replace B1 := Lib.hid (B1.out.later hb)
          replace HS := Lib.hid (HS.out.later hb)
          replace HW := Lib.hid (HW.out.trans (hb.mono HW.out.size))
          clear hb
          obtain ⟨lB1, cB1, fB1⟩ := B1.out
          clear hf
          have cl := (Below.cell HS.out (p := ⟨lb0, lo0 + x, none⟩) hlb2).trans HLC.out
          have cr := (Below.cell HS.out (p := ⟨rb, ro + i, none⟩) hrb).trans (HRX.out i (by rw [natI_len, ← HRL.out]; exact hlt))
          rw [HZV.out] at cr
          cases k
          · clear cl cr
            go_wp2
            go_roundw
            case rel => exact ⟨i + 1, hlt, by go_num, HS.out, HW.out, B1.out⟩
            case measure => simp [intOf]; omega
          · have hxz : x = z := by
              obtain ⟨p, _, _, _, h4⟩ := HFZ.out
              rcases h4 with h4 | h4
              · exact h4
              · exact absurd (HKO.out.1 rfl) h4
            have hzz : ((z : Int) != (x : Int)) = false := by rw [hxz]; simp
            clear hxz
            go_wp2
            go_roundw
            case rel => exact ⟨i + 1, hlt, by go_num, HS.out, HW.out, B1.out⟩
            case measure => simp [intOf]; omega
        · go_wp2
          go_ret
          exact ⟨rfl, HW.out⟩
    · cases c
      · clear hgt

        go_wp2_with fail
        go_loopw [18] (fun iv wr => ∃ i : Nat, i ≤ rl ∧ iv = .int .i64 i ∧ Since W3 wr ∧ Below w.heap.size w wr ∧ Box wr w.heap.size #[.slice ap f.params.length cp, .int .i64 f.arrays, .int .i64 f.cells, .slice ab nb cb]) (fun iv _ => rl - (intOf iv).toNat)
        case atStart => exact ⟨0, Nat.zero_le _, rfl, HS.out, HW.out, B1.out⟩
        case round =>
          obtain ⟨i, hi, rfl, hS, hW, h1⟩ := hrel
          clear lB1 cB1 fB1
          replace HS := Lib.hid hS
          replace HW := Lib.hid hW
          replace B1 := Lib.hid h1
          clear hS hW h1
          generalize wr = w7 at *

          obtain ⟨lB1, cB1, fB1⟩ := B1.out
          have CL := Lib.hid ((Below.cell HS.out (p := ⟨lb0, lo0 + x, none⟩) hlb2).trans HLC.out)
          have cl := CL.out
          have CLl := World.block_lt_of_cell? w7 _ CL.out
          by_cases hlt : i < rl
          · obtain ⟨rfl, hrb⟩ := HRA.out (by omega)
            obtain ⟨z, hz⟩ : ∃ z, fl[i]? = some z := ⟨_, List.getElem?_eq_getElem (by have := HRL.out; omega)⟩
            have CR := Lib.hid ((Below.cell HS.out (p := ⟨rb, ro + i, none⟩) hrb).trans (HRX.out i (by rw [natI_len, ← HRL.out]; exact hlt)))
            rw [show (natI fl).getD i 0 = (z : Int) by unfold natI; rw [List.getD_eq_getElem?_getD, List.getElem?_map, hz]; rfl] at CR
            have CRl := World.block_lt_of_cell? w7 _ CR.out
            have HZV : Hid ((natI fl).getD i 0 = (z : Int)) := Lib.hid (by unfold natI; rw [List.getD_eq_getElem?_getD, List.getElem?_map, hz]; rfl)
            obtain ⟨hz1, hz2⟩ := (HFX.out z).1 (List.mem_of_getElem? hz)
            have hzl : z < nb := by rw [HNB.out]; exact hz1
            have HFZ := Lib.hid hz2
            obtain ⟨k, hk⟩ : ∃ k : Bool, k = true ↔ OverP f x z := by
              rcases Classical.em (OverP f x z) with h | h
              · exact ⟨true, by simp [h]⟩
              · exact ⟨false, by simp [h]⟩
            have HKO := Lib.hid hk
            clear hz hz1 hz2 hk
            go_upto_region 15 with (fail)
            clear cl
            refine wp_region_grow 15 (fun kz => match kz with | 9 => .const (.tuple #[.bool k, .int .i64 0]) | _ => .plain) (by kernel_rfl) (by kernel_rfl) ?_ (fun ν => ?_)
            · (intro k; (try dsimp only); split <;> first | exact True.intro | (intro u w1 w2 hu hb; exact hu.below hb))
            simp only [List.take_succ_cons, List.take_zero, List.drop_succ_cons, List.drop_zero]
            refine Grow.val (v := ?_) rfl rfl (fun wg hbg hdg => ?_) ?_
            rotate_left
            focus ((obtain ⟨lg0, cg0, fg0⟩ := B1.out.later hbg); (have hcl := (hbg.cell (p := ⟨lb0, lo0 + x, none⟩) CLl).trans CL.out; have hcr := (hbg.cell (p := ⟨rb, ro + i, none⟩) CRl).trans CR.out); clear hbg hdg; first | (go_simp; done) | (go_simp; with_reducible rfl))
            simp only [Act.put, List.setIfInBounds_toArray, List.set_cons_zero, List.set_cons_succ]
            refine Grow.val (v := ?_) rfl rfl (fun wg hbg hdg => ?_) ?_
            rotate_left
            focus ((obtain ⟨lg0, cg0, fg0⟩ := B1.out.later hbg); (have hcl := (hbg.cell (p := ⟨lb0, lo0 + x, none⟩) CLl).trans CL.out; have hcr := (hbg.cell (p := ⟨rb, ro + i, none⟩) CRl).trans CR.out); clear hbg hdg; first | (go_simp; done) | (go_simp; with_reducible rfl))
            simp only [Act.put, List.setIfInBounds_toArray, List.set_cons_zero, List.set_cons_succ]
            refine Grow.val (v := ?_) rfl rfl (fun wg hbg hdg => ?_) ?_
            rotate_left
            focus ((obtain ⟨lg0, cg0, fg0⟩ := B1.out.later hbg); (have hcl := (hbg.cell (p := ⟨lb0, lo0 + x, none⟩) CLl).trans CL.out; have hcr := (hbg.cell (p := ⟨rb, ro + i, none⟩) CRl).trans CR.out); clear hbg hdg; first | (go_simp; done) | (go_simp; with_reducible rfl))
            simp only [Act.put, List.setIfInBounds_toArray, List.set_cons_zero, List.set_cons_succ]
            refine Grow.val (v := ?_) rfl rfl (fun wg hbg hdg => ?_) ?_
            rotate_left
            focus ((obtain ⟨lg0, cg0, fg0⟩ := B1.out.later hbg); (have hcl := (hbg.cell (p := ⟨lb0, lo0 + x, none⟩) CLl).trans CL.out; have hcr := (hbg.cell (p := ⟨rb, ro + i, none⟩) CRl).trans CR.out); clear hbg hdg; first | (go_simp; done) | (go_simp; with_reducible rfl))
            simp only [Act.put, List.setIfInBounds_toArray, List.set_cons_zero, List.set_cons_succ]
            refine Grow.val (v := ?_) rfl rfl (fun wg hbg hdg => ?_) ?_
            rotate_left
            focus ((obtain ⟨lg0, cg0, fg0⟩ := B1.out.later hbg); (have hcl := (hbg.cell (p := ⟨lb0, lo0 + x, none⟩) CLl).trans CL.out; have hcr := (hbg.cell (p := ⟨rb, ro + i, none⟩) CRl).trans CR.out); clear hbg hdg; first | (go_simp; done) | (go_simp; with_reducible rfl))
            simp only [Act.put, List.setIfInBounds_toArray, List.set_cons_zero, List.set_cons_succ]
            refine Grow.val (v := ?_) rfl rfl (fun wg hbg hdg => ?_) ?_
            rotate_left
            focus ((obtain ⟨lg0, cg0, fg0⟩ := B1.out.later hbg); (have hcl := (hbg.cell (p := ⟨lb0, lo0 + x, none⟩) CLl).trans CL.out; have hcr := (hbg.cell (p := ⟨rb, ro + i, none⟩) CRl).trans CR.out); clear hbg hdg; first | (go_simp; done) | (go_simp; with_reducible rfl))
            simp only [Act.put, List.setIfInBounds_toArray, List.set_cons_zero, List.set_cons_succ]
            refine Grow.val (v := ?_) rfl rfl (fun wg hbg hdg => ?_) ?_
            rotate_left
            focus ((obtain ⟨lg0, cg0, fg0⟩ := B1.out.later hbg); (have hcl := (hbg.cell (p := ⟨lb0, lo0 + x, none⟩) CLl).trans CL.out; have hcr := (hbg.cell (p := ⟨rb, ro + i, none⟩) CRl).trans CR.out); clear hbg hdg; first | (go_simp; done) | (go_simp; with_reducible rfl))
            simp only [Act.put, List.setIfInBounds_toArray, List.set_cons_zero, List.set_cons_succ]
            refine Grow.val (v := ?_) rfl rfl (fun wg hbg hdg => ?_) ?_
            rotate_left
            focus ((obtain ⟨lg0, cg0, fg0⟩ := B1.out.later hbg); (have hcl := (hbg.cell (p := ⟨lb0, lo0 + x, none⟩) CLl).trans CL.out; have hcr := (hbg.cell (p := ⟨rb, ro + i, none⟩) CRl).trans CR.out); clear hbg hdg; first | (go_simp; done) | (go_simp; with_reducible rfl))
            simp only [Act.put, List.setIfInBounds_toArray, List.set_cons_zero, List.set_cons_succ]
            refine Grow.val (v := ?_) rfl rfl (fun wg hbg hdg => ?_) ?_
            rotate_left
            focus ((obtain ⟨lg0, cg0, fg0⟩ := B1.out.later hbg); (have hcl := (hbg.cell (p := ⟨lb0, lo0 + x, none⟩) CLl).trans CL.out; have hcr := (hbg.cell (p := ⟨rb, ro + i, none⟩) CRl).trans CR.out); clear hbg hdg; first | (go_simp; done) | (go_simp; with_reducible rfl))
            simp only [Act.put, List.setIfInBounds_toArray, List.set_cons_zero, List.set_cons_succ]
            refine Grow.call (f := ?_) (args := ?_) rfl (fun wg => ?_) (fun wg hbg hdg => ?_) ?_
            rotate_left 2
            focus (first | (go_simp; done) | (go_simp; refine And.intro ?_ ?_ <;> with_reducible rfl) | (go_simp; with_reducible rfl))
            focus exact Calls.mono (HDC.out wg z k (HW.out.trans (hbg.mono HW.out.size)) hzl HKO.out) (fun e w2 ⟨he, hb2⟩ => ⟨_, he, rfl, hb2⟩)
            simp only [Act.put, Known.val, List.setIfInBounds_toArray, List.set_cons_zero, List.set_cons_succ]
            refine Grow.val (v := ?_) rfl rfl (fun wg hbg hdg => ?_) ?_
            rotate_left
            focus ((obtain ⟨lg0, cg0, fg0⟩ := B1.out.later hbg); (have hcl := (hbg.cell (p := ⟨lb0, lo0 + x, none⟩) CLl).trans CL.out; have hcr := (hbg.cell (p := ⟨rb, ro + i, none⟩) CRl).trans CR.out); clear hbg hdg; first | (go_simp; done) | (go_simp; with_reducible rfl))
            simp only [Act.put, List.setIfInBounds_toArray, List.set_cons_zero, List.set_cons_succ]
            refine Grow.val (v := ?_) rfl rfl (fun wg hbg hdg => ?_) ?_
            rotate_left
            focus ((obtain ⟨lg0, cg0, fg0⟩ := B1.out.later hbg); (have hcl := (hbg.cell (p := ⟨lb0, lo0 + x, none⟩) CLl).trans CL.out; have hcr := (hbg.cell (p := ⟨rb, ro + i, none⟩) CRl).trans CR.out); clear hbg hdg; first | (go_simp; done) | (go_simp; with_reducible rfl))
            simp only [Act.put, List.setIfInBounds_toArray, List.set_cons_zero, List.set_cons_succ]
            refine Grow.val (v := ?_) rfl rfl (fun wg hbg hdg => ?_) ?_
            rotate_left
            focus ((obtain ⟨lg0, cg0, fg0⟩ := B1.out.later hbg); (have hcl := (hbg.cell (p := ⟨lb0, lo0 + x, none⟩) CLl).trans CL.out; have hcr := (hbg.cell (p := ⟨rb, ro + i, none⟩) CRl).trans CR.out); clear hbg hdg; first | (go_simp; done) | (go_simp; with_reducible rfl))
            simp only [Act.put, List.setIfInBounds_toArray, List.set_cons_zero, List.set_cons_succ]
            refine Grow.val (v := ?_) rfl rfl (fun wg hbg hdg => ?_) ?_
            rotate_left
            focus ((obtain ⟨lg0, cg0, fg0⟩ := B1.out.later hbg); (have hcl := (hbg.cell (p := ⟨lb0, lo0 + x, none⟩) CLl).trans CL.out; have hcr := (hbg.cell (p := ⟨rb, ro + i, none⟩) CRl).trans CR.out); clear hbg hdg; first | (go_simp; done) | (go_simp; with_reducible rfl))
            simp only [Act.put, List.setIfInBounds_toArray, List.set_cons_zero, List.set_cons_succ]
            refine Grow.val (v := ?_) rfl rfl (fun wg hbg hdg => ?_) ?_
            rotate_left
            focus ((obtain ⟨lg0, cg0, fg0⟩ := B1.out.later hbg); (have hcl := (hbg.cell (p := ⟨lb0, lo0 + x, none⟩) CLl).trans CL.out; have hcr := (hbg.cell (p := ⟨rb, ro + i, none⟩) CRl).trans CR.out); clear hbg hdg; first | (go_simp; done) | (go_simp; with_reducible rfl))
            simp only [Act.put, List.setIfInBounds_toArray, List.set_cons_zero, List.set_cons_succ]
            intro wg hb hf hap
            clear hap
            clear lB1 cB1 fB1
            replace B1 := Lib.hid (B1.out.later hb)
            replace HS := Lib.hid (HS.out.later hb)
            replace HW := Lib.hid (HW.out.trans (hb.mono HW.out.size))
            clear hb
            obtain ⟨lB1, cB1, fB1⟩ := B1.out
            clear hf
            have cl := (Below.cell HS.out (p := ⟨lb0, lo0 + x, none⟩) hlb2).trans HLC.out
            have cr := (Below.cell HS.out (p := ⟨rb, ro + i, none⟩) hrb).trans (HRX.out i (by rw [natI_len, ← HRL.out]; exact hlt))
            rw [HZV.out] at cr
            cases k
            · clear cl cr
              go_wp2
              go_roundw
              case rel => exact ⟨i + 1, hlt, by go_num, HS.out, HW.out, B1.out⟩
              case measure => simp [intOf]; omega
            · have hxz : x = z := by
                obtain ⟨p, _, _, _, h4⟩ := HFZ.out
                rcases h4 with h4 | h4
                · exact h4
                · exact absurd (HKO.out.1 rfl) h4
              have hzz : ((z : Int) != (x : Int)) = false := by rw [hxz]; simp
              clear hxz
              go_wp2
              go_roundw
              case rel => exact ⟨i + 1, hlt, by go_num, HS.out, HW.out, B1.out⟩
              case measure => simp [intOf]; omega
          · go_wp2
            go_ret
            exact ⟨rfl, HW.out⟩
      · have hxy : ((x : Int) != (y : Int)) = false := by
          rcases Decidable.em (x = y) with h | h
          · simp [h]
          · exact absurd ⟨rfl, h⟩ hgt
        clear hgt

        go_wp2_with fail
        go_loopw [18] (fun iv wr => ∃ i : Nat, i ≤ rl ∧ iv = .int .i64 i ∧ Since W3 wr ∧ Below w.heap.size w wr ∧ Box wr w.heap.size #[.slice ap f.params.length cp, .int .i64 f.arrays, .int .i64 f.cells, .slice ab nb cb]) (fun iv _ => rl - (intOf iv).toNat)
        case atStart => exact ⟨0, Nat.zero_le _, rfl, HS.out, HW.out, B1.out⟩
        case round =>
          obtain ⟨i, hi, rfl, hS, hW, h1⟩ := hrel
          clear lB1 cB1 fB1
          replace HS := Lib.hid hS
          replace HW := Lib.hid hW
          replace B1 := Lib.hid h1
          clear hS hW h1
          generalize wr = w7 at *

          obtain ⟨lB1, cB1, fB1⟩ := B1.out
          have CL := Lib.hid ((Below.cell HS.out (p := ⟨lb0, lo0 + x, none⟩) hlb2).trans HLC.out)
          have cl := CL.out
          have CLl := World.block_lt_of_cell? w7 _ CL.out
          by_cases hlt : i < rl
          · obtain ⟨rfl, hrb⟩ := HRA.out (by omega)
            obtain ⟨z, hz⟩ : ∃ z, fl[i]? = some z := ⟨_, List.getElem?_eq_getElem (by have := HRL.out; omega)⟩
            have CR := Lib.hid ((Below.cell HS.out (p := ⟨rb, ro + i, none⟩) hrb).trans (HRX.out i (by rw [natI_len, ← HRL.out]; exact hlt)))
            rw [show (natI fl).getD i 0 = (z : Int) by unfold natI; rw [List.getD_eq_getElem?_getD, List.getElem?_map, hz]; rfl] at CR
            have CRl := World.block_lt_of_cell? w7 _ CR.out
            have HZV : Hid ((natI fl).getD i 0 = (z : Int)) := Lib.hid (by unfold natI; rw [List.getD_eq_getElem?_getD, List.getElem?_map, hz]; rfl)
            obtain ⟨hz1, hz2⟩ := (HFX.out z).1 (List.mem_of_getElem? hz)
            have hzl : z < nb := by rw [HNB.out]; exact hz1
            have HFZ := Lib.hid hz2
            obtain ⟨k, hk⟩ : ∃ k : Bool, k = true ↔ OverP f x z := by
              rcases Classical.em (OverP f x z) with h | h
              · exact ⟨true, by simp [h]⟩
              · exact ⟨false, by simp [h]⟩
            have HKO := Lib.hid hk
            clear hz hz1 hz2 hk
            go_upto_region 15 with (fail)
            clear cl
            refine wp_region_grow 15 (fun kz => match kz with | 9 => .const (.tuple #[.bool k, .int .i64 0]) | _ => .plain) (by kernel_rfl) (by kernel_rfl) ?_ (fun ν => ?_)
            · (intro k; (try dsimp only); split <;> first | exact True.intro | (intro u w1 w2 hu hb; exact hu.below hb))
            simp only [List.take_succ_cons, List.take_zero, List.drop_succ_cons, List.drop_zero]
            refine Grow.val (v := ?_) rfl rfl (fun wg hbg hdg => ?_) ?_
            rotate_left
            focus ((obtain ⟨lg0, cg0, fg0⟩ := B1.out.later hbg); (have hcl := (hbg.cell (p := ⟨lb0, lo0 + x, none⟩) CLl).trans CL.out; have hcr := (hbg.cell (p := ⟨rb, ro + i, none⟩) CRl).trans CR.out); clear hbg hdg; first | (go_simp; done) | (go_simp; with_reducible rfl))
            simp only [Act.put, List.setIfInBounds_toArray, List.set_cons_zero, List.set_cons_succ]
            refine Grow.val (v := ?_) rfl rfl (fun wg hbg hdg => ?_) ?_
            rotate_left
            focus ((obtain ⟨lg0, cg0, fg0⟩ := B1.out.later hbg); (have hcl := (hbg.cell (p := ⟨lb0, lo0 + x, none⟩) CLl).trans CL.out; have hcr := (hbg.cell (p := ⟨rb, ro + i, none⟩) CRl).trans CR.out); clear hbg hdg; first | (go_simp; done) | (go_simp; with_reducible rfl))
            simp only [Act.put, List.setIfInBounds_toArray, List.set_cons_zero, List.set_cons_succ]
            refine Grow.val (v := ?_) rfl rfl (fun wg hbg hdg => ?_) ?_
            rotate_left
            focus ((obtain ⟨lg0, cg0, fg0⟩ := B1.out.later hbg); (have hcl := (hbg.cell (p := ⟨lb0, lo0 + x, none⟩) CLl).trans CL.out; have hcr := (hbg.cell (p := ⟨rb, ro + i, none⟩) CRl).trans CR.out); clear hbg hdg; first | (go_simp; done) | (go_simp; with_reducible rfl))
            simp only [Act.put, List.setIfInBounds_toArray, List.set_cons_zero, List.set_cons_succ]
            refine Grow.val (v := ?_) rfl rfl (fun wg hbg hdg => ?_) ?_
            rotate_left
            focus ((obtain ⟨lg0, cg0, fg0⟩ := B1.out.later hbg); (have hcl := (hbg.cell (p := ⟨lb0, lo0 + x, none⟩) CLl).trans CL.out; have hcr := (hbg.cell (p := ⟨rb, ro + i, none⟩) CRl).trans CR.out); clear hbg hdg; first | (go_simp; done) | (go_simp; with_reducible rfl))
            simp only [Act.put, List.setIfInBounds_toArray, List.set_cons_zero, List.set_cons_succ]
            refine Grow.val (v := ?_) rfl rfl (fun wg hbg hdg => ?_) ?_
            rotate_left
            focus ((obtain ⟨lg0, cg0, fg0⟩ := B1.out.later hbg); (have hcl := (hbg.cell (p := ⟨lb0, lo0 + x, none⟩) CLl).trans CL.out; have hcr := (hbg.cell (p := ⟨rb, ro + i, none⟩) CRl).trans CR.out); clear hbg hdg; first | (go_simp; done) | (go_simp; with_reducible rfl))
            simp only [Act.put, List.setIfInBounds_toArray, List.set_cons_zero, List.set_cons_succ]
            refine Grow.val (v := ?_) rfl rfl (fun wg hbg hdg => ?_) ?_
            rotate_left
            focus ((obtain ⟨lg0, cg0, fg0⟩ := B1.out.later hbg); (have hcl := (hbg.cell (p := ⟨lb0, lo0 + x, none⟩) CLl).trans CL.out; have hcr := (hbg.cell (p := ⟨rb, ro + i, none⟩) CRl).trans CR.out); clear hbg hdg; first | (go_simp; done) | (go_simp; with_reducible rfl))
            simp only [Act.put, List.setIfInBounds_toArray, List.set_cons_zero, List.set_cons_succ]
            refine Grow.val (v := ?_) rfl rfl (fun wg hbg hdg => ?_) ?_
            rotate_left
            focus ((obtain ⟨lg0, cg0, fg0⟩ := B1.out.later hbg); (have hcl := (hbg.cell (p := ⟨lb0, lo0 + x, none⟩) CLl).trans CL.out; have hcr := (hbg.cell (p := ⟨rb, ro + i, none⟩) CRl).trans CR.out); clear hbg hdg; first | (go_simp; done) | (go_simp; with_reducible rfl))
            simp only [Act.put, List.setIfInBounds_toArray, List.set_cons_zero, List.set_cons_succ]
            refine Grow.val (v := ?_) rfl rfl (fun wg hbg hdg => ?_) ?_
            rotate_left
            focus ((obtain ⟨lg0, cg0, fg0⟩ := B1.out.later hbg); (have hcl := (hbg.cell (p := ⟨lb0, lo0 + x, none⟩) CLl).trans CL.out; have hcr := (hbg.cell (p := ⟨rb, ro + i, none⟩) CRl).trans CR.out); clear hbg hdg; first | (go_simp; done) | (go_simp; with_reducible rfl))
            simp only [Act.put, List.setIfInBounds_toArray, List.set_cons_zero, List.set_cons_succ]
            refine Grow.val (v := ?_) rfl rfl (fun wg hbg hdg => ?_) ?_
            rotate_left
            focus ((obtain ⟨lg0, cg0, fg0⟩ := B1.out.later hbg); (have hcl := (hbg.cell (p := ⟨lb0, lo0 + x, none⟩) CLl).trans CL.out; have hcr := (hbg.cell (p := ⟨rb, ro + i, none⟩) CRl).trans CR.out); clear hbg hdg; first | (go_simp; done) | (go_simp; with_reducible rfl))
            simp only [Act.put, List.setIfInBounds_toArray, List.set_cons_zero, List.set_cons_succ]
            refine Grow.call (f := ?_) (args := ?_) rfl (fun wg => ?_) (fun wg hbg hdg => ?_) ?_
            rotate_left 2
            focus (first | (go_simp; done) | (go_simp; refine And.intro ?_ ?_ <;> with_reducible rfl) | (go_simp; with_reducible rfl))
            focus exact Calls.mono (HDC.out wg z k (HW.out.trans (hbg.mono HW.out.size)) hzl HKO.out) (fun e w2 ⟨he, hb2⟩ => ⟨_, he, rfl, hb2⟩)
            simp only [Act.put, Known.val, List.setIfInBounds_toArray, List.set_cons_zero, List.set_cons_succ]
            refine Grow.val (v := ?_) rfl rfl (fun wg hbg hdg => ?_) ?_
            rotate_left
            focus ((obtain ⟨lg0, cg0, fg0⟩ := B1.out.later hbg); (have hcl := (hbg.cell (p := ⟨lb0, lo0 + x, none⟩) CLl).trans CL.out; have hcr := (hbg.cell (p := ⟨rb, ro + i, none⟩) CRl).trans CR.out); clear hbg hdg; first | (go_simp; done) | (go_simp; with_reducible rfl))
            simp only [Act.put, List.setIfInBounds_toArray, List.set_cons_zero, List.set_cons_succ]
            refine Grow.val (v := ?_) rfl rfl (fun wg hbg hdg => ?_) ?_
            rotate_left
            focus ((obtain ⟨lg0, cg0, fg0⟩ := B1.out.later hbg); (have hcl := (hbg.cell (p := ⟨lb0, lo0 + x, none⟩) CLl).trans CL.out; have hcr := (hbg.cell (p := ⟨rb, ro + i, none⟩) CRl).trans CR.out); clear hbg hdg; first | (go_simp; done) | (go_simp; with_reducible rfl))
            simp only [Act.put, List.setIfInBounds_toArray, List.set_cons_zero, List.set_cons_succ]
            refine Grow.val (v := ?_) rfl rfl (fun wg hbg hdg => ?_) ?_
            rotate_left
            focus ((obtain ⟨lg0, cg0, fg0⟩ := B1.out.later hbg); (have hcl := (hbg.cell (p := ⟨lb0, lo0 + x, none⟩) CLl).trans CL.out; have hcr := (hbg.cell (p := ⟨rb, ro + i, none⟩) CRl).trans CR.out); clear hbg hdg; first | (go_simp; done) | (go_simp; with_reducible rfl))
            simp only [Act.put, List.setIfInBounds_toArray, List.set_cons_zero, List.set_cons_succ]
            refine Grow.val (v := ?_) rfl rfl (fun wg hbg hdg => ?_) ?_
            rotate_left
            focus ((obtain ⟨lg0, cg0, fg0⟩ := B1.out.later hbg); (have hcl := (hbg.cell (p := ⟨lb0, lo0 + x, none⟩) CLl).trans CL.out; have hcr := (hbg.cell (p := ⟨rb, ro + i, none⟩) CRl).trans CR.out); clear hbg hdg; first | (go_simp; done) | (go_simp; with_reducible rfl))
            simp only [Act.put, List.setIfInBounds_toArray, List.set_cons_zero, List.set_cons_succ]
            refine Grow.val (v := ?_) rfl rfl (fun wg hbg hdg => ?_) ?_
            rotate_left
            focus ((obtain ⟨lg0, cg0, fg0⟩ := B1.out.later hbg); (have hcl := (hbg.cell (p := ⟨lb0, lo0 + x, none⟩) CLl).trans CL.out; have hcr := (hbg.cell (p := ⟨rb, ro + i, none⟩) CRl).trans CR.out); clear hbg hdg; first | (go_simp; done) | (go_simp; with_reducible rfl))
            simp only [Act.put, List.setIfInBounds_toArray, List.set_cons_zero, List.set_cons_succ]
            intro wg hb hf hap
            clear hap
            clear lB1 cB1 fB1
            replace B1 := Lib.hid (B1.out.later hb)
            replace HS := Lib.hid (HS.out.later hb)
            replace HW := Lib.hid (HW.out.trans (hb.mono HW.out.size))
            clear hb
            obtain ⟨lB1, cB1, fB1⟩ := B1.out
            clear hf
            have cl := (Below.cell HS.out (p := ⟨lb0, lo0 + x, none⟩) hlb2).trans HLC.out
            have cr := (Below.cell HS.out (p := ⟨rb, ro + i, none⟩) hrb).trans (HRX.out i (by rw [natI_len, ← HRL.out]; exact hlt))
            rw [HZV.out] at cr
            cases k
            · clear cl cr
              go_wp2
              go_roundw
              case rel => exact ⟨i + 1, hlt, by go_num, HS.out, HW.out, B1.out⟩
              case measure => simp [intOf]; omega
            · have hxz : x = z := by
                obtain ⟨p, _, _, _, h4⟩ := HFZ.out
                rcases h4 with h4 | h4
                · exact h4
                · exact absurd (HKO.out.1 rfl) h4
              have hzz : ((z : Int) != (x : Int)) = false := by rw [hxz]; simp
              clear hxz
              go_wp2
              go_roundw
              case rel => exact ⟨i + 1, hlt, by go_num, HS.out, HW.out, B1.out⟩
              case measure => simp [intOf]; omega
          · go_wp2
            go_ret
            exact ⟨rfl, HW.out⟩
  · by_cases hc0 : checkF f = 0
    · have hg2 : (200 : Int) < (nb : Int) := by omega
      have hc1 : (checkF f != 0) = false := by simpa using hc0
      clear hgo hc0
      go_wp2_with fail
      refine awake4.mono ?_
      rintro e w5 ⟨rfl, hb⟩
      clear lB1 cB1 fB1
      replace B1 := Lib.hid (B1.out.later hb)
      replace HS := Lib.hid (HS.out.later hb)
      replace HW := Lib.hid (HW.out.trans (hb.mono HW.out.size))
      clear hb
      obtain ⟨lB1, cB1, fB1⟩ := B1.out
      go_wp2
      go_ret
      exact ⟨rfl, HW.out⟩
    · have hc1 : (checkF f != 0) = true := by simpa using hc0
      clear hgo hc0
      go_wp2_with fail
      refine awake4.mono ?_
      rintro e w5 ⟨rfl, hb⟩
      clear lB1 cB1 fB1
      replace B1 := Lib.hid (B1.out.later hb)
      replace HS := Lib.hid (HS.out.later hb)
      replace HW := Lib.hid (HW.out.trans (hb.mono HW.out.size))
      clear hb
      obtain ⟨lB1, cB1, fB1⟩ := B1.out
      go_wp2
      go_ret
      exact ⟨rfl, HW.out⟩
end Go.Proofs.Ytefpmjnimnmniaa
