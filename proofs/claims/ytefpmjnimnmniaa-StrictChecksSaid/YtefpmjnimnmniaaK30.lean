/- What the claim needs, part 30. -/
import Derived.Test.YtefpmjnimnmniaaK29
namespace Go.Proofs.Ytefpmjnimnmniaa
set_option linter.unusedSimpArgs false
set_option linter.unusedVariables false
open Go.RowKit
structure SimpleS (W : World) (bs bt bg bb ci bm : Nat) (A2 : Value) (m : List (Int × Value)) : Prop where
  s : Box W bs #[.pointer (some ⟨bt, 0, none⟩), A2, .map (some bm)]
  t : W.cell? ⟨bt, 0, none⟩ = some (.pointer (some ⟨bg, 0, none⟩))
  g : W.cell? ⟨bg, 3, none⟩ = some (.slice (some ⟨bb, 0, none⟩) 1 1)
  b : Box W bb #[.slice none 0 0, .slice (some ⟨ci, 0, none⟩) 1 1, .int .i64 3, .int .i64 0, .slice none 0 0, .int .i64 0]
  c : Box W ci #[.int .i64 1, .int .i64 0, .slice none 0 0, .int .i64 5]
  mp : IMap W bm m
  mg : mget m 0 = some (.agg #[.int .i64 0, .int .i64 0])
theorem SimpleS.later {W W' : World} {bs bt bg bb ci bm : Nat} {A2 : Value} {m : List (Int × Value)} (h : SimpleS W bs bt bg bb ci bm A2 m) (hb : Below W.heap.size W W') : SimpleS W' bs bt bg bb ci bm A2 m :=
  ⟨h.s.later hb, (hb.cell (World.block_lt_of_cell? W _ h.t)).trans h.t, (hb.cell (World.block_lt_of_cell? W _ h.g)).trans h.g, h.b.later hb, h.c.later hb, h.mp.later hb, h.mg⟩
set_option maxHeartbeats 6400000 in
set_option maxRecDepth 100000 in
theorem phisS {w : World} {bs bt bg bb ci bm : Nat} {A2 : Value} {m : List (Int × Value)} (hS : SimpleS w bs bt bg bb ci bm A2 m) :
    Calls Try.prog 104 #[.pointer (some ⟨bs, 0, none⟩), .int .i64 0] w fun e w' => e = .returned (.bool true) ∧ Below w.heap.size w w' := by
  have HS := Lib.hid hS
  clear hS
  go_enter Try.func104, Try.ntmps104
  go_upto_region 1 with (fail)
  have B1 : Hid (Box ((w.alloc (.cells #[.pointer (some ⟨bs, 0, none⟩)] 135)).alloc (.cells #[.int .i64 0] 3)) (w.heap.size) #[.pointer (some ⟨bs, 0, none⟩)]) := Lib.hid (by simpa using ((Box.new w #[.pointer (some ⟨bs, 0, none⟩)] 135).alloc _))
  have B2 : Hid (Box ((w.alloc (.cells #[.pointer (some ⟨bs, 0, none⟩)] 135)).alloc (.cells #[.int .i64 0] 3)) (w.heap.size + 1) #[.int .i64 0]) := Lib.hid (by simpa using (Box.new (w.alloc (.cells #[.pointer (some ⟨bs, 0, none⟩)] 135)) #[.int .i64 0] 3))
  have HW : Hid (Below w.heap.size w ((w.alloc (.cells #[.pointer (some ⟨bs, 0, none⟩)] 135)).alloc (.cells #[.int .i64 0] 3))) := Lib.hid (((Below.refl _ _).alloc (Nat.le_refl _) _).alloc (by simp) _)
  generalize ((w.alloc (.cells #[.pointer (some ⟨bs, 0, none⟩)] 135)).alloc (.cells #[.int .i64 0] 3)) = wv at *
  obtain ⟨lB1, cB1, fB1⟩ := B1.out
  obtain ⟨lB2, cB2, fB2⟩ := B2.out
  have HS2 := Lib.hid (HS.out.later HW.out)
  refine wp_region_grow 19 (fun kz => match kz with | 16 => .const (.bool false) | _ => .plain) (by kernel_rfl) (by kernel_rfl) ?_ (fun ν => ?_)
  · (intro k; (try dsimp only); split <;> first | exact True.intro | (intro u w1 w2 hu hb; exact hu.below hb))
  simp only [List.take_succ_cons, List.take_zero, List.drop_succ_cons, List.drop_zero]
  iterate 16 (refine Grow.val (v := ?_) rfl rfl (fun wg hbg hdg => ?_) ?_; rotate_left; (focus ((obtain ⟨lg0, cg0, fg0⟩ := B1.out.later hbg); (obtain ⟨lg1, cg1, fg1⟩ := B2.out.later hbg); (obtain ⟨⟨xl1, xc1, xf1⟩, xt, xg, ⟨xl2, xc2, xf2⟩, -, -, -⟩ := HS2.out.later hbg); clear hbg hdg; first | (go_simp; done) | (go_simp; with_reducible rfl))); simp only [Act.put, List.setIfInBounds_toArray, List.set_cons_zero, List.set_cons_succ])
  refine Grow.call (f := ?_) (args := ?_) rfl (fun wg => ?_) (fun wg hbg hdg => ?_) ?_
  rotate_left 2
  focus (first | (go_simp; done) | (go_simp; refine And.intro ?_ ?_ <;> with_reducible rfl) | (go_simp; with_reducible rfl))
  focus (exact contNoneP.mono (fun e w2 ⟨he, hb2⟩ => ⟨_, he, rfl, hb2 ▸ Below.refl _ _⟩))
  simp only [Act.put, Known.val, List.setIfInBounds_toArray, List.set_cons_zero, List.set_cons_succ]
  iterate 2 (refine Grow.val (v := ?_) rfl rfl (fun wg hbg hdg => ?_) ?_; rotate_left; (focus ((obtain ⟨lg0, cg0, fg0⟩ := B1.out.later hbg); (obtain ⟨lg1, cg1, fg1⟩ := B2.out.later hbg); (obtain ⟨⟨xl1, xc1, xf1⟩, xt, xg, ⟨xl2, xc2, xf2⟩, -, -, -⟩ := HS2.out.later hbg); clear hbg hdg; first | (go_simp; done) | (go_simp; with_reducible rfl))); simp only [Act.put, List.setIfInBounds_toArray, List.set_cons_zero, List.set_cons_succ])
  intro wg hb hf hap
  clear hap
  clear lB1 cB1 fB1 lB2 cB2 fB2
  replace B1 := Lib.hid (B1.out.later hb)
  replace B2 := Lib.hid (B2.out.later hb)
  replace HW := Lib.hid (HW.out.trans (hb.mono HW.out.size))
  clear hb
  obtain ⟨lB1, cB1, fB1⟩ := B1.out
  obtain ⟨lB2, cB2, fB2⟩ := B2.out
  clear hf
  go_wp2
  go_ret
  exact ⟨rfl, HW.out⟩
set_option maxHeartbeats 12800000 in
set_option maxRecDepth 100000 in
theorem usesS {w : World} {bs bt bg bb ci bm : Nat} {A2 : Value} {m : List (Int × Value)} (hS : SimpleS w bs bt bg bb ci bm A2 m) :
    Calls Try.prog 105 #[.pointer (some ⟨bs, 0, none⟩), .int .i64 0] w fun e w' => e = .returned (.bool true) ∧ Below w.heap.size w w' := by
  have HS := Lib.hid hS
  clear hS
  go_enter Try.func105, Try.ntmps105
  go_upto_region 1 with (fail)
  have B1 : Hid (Box ((w.alloc (.cells #[.pointer (some ⟨bs, 0, none⟩)] 135)).alloc (.cells #[.int .i64 0] 3)) (w.heap.size) #[.pointer (some ⟨bs, 0, none⟩)]) := Lib.hid (by simpa using ((Box.new w #[.pointer (some ⟨bs, 0, none⟩)] 135).alloc _))
  have B2 : Hid (Box ((w.alloc (.cells #[.pointer (some ⟨bs, 0, none⟩)] 135)).alloc (.cells #[.int .i64 0] 3)) (w.heap.size + 1) #[.int .i64 0]) := Lib.hid (by simpa using (Box.new (w.alloc (.cells #[.pointer (some ⟨bs, 0, none⟩)] 135)) #[.int .i64 0] 3))
  have HW : Hid (Below w.heap.size w ((w.alloc (.cells #[.pointer (some ⟨bs, 0, none⟩)] 135)).alloc (.cells #[.int .i64 0] 3))) := Lib.hid (((Below.refl _ _).alloc (Nat.le_refl _) _).alloc (by simp) _)
  generalize ((w.alloc (.cells #[.pointer (some ⟨bs, 0, none⟩)] 135)).alloc (.cells #[.int .i64 0] 3)) = wv at *
  obtain ⟨lB1, cB1, fB1⟩ := B1.out
  obtain ⟨lB2, cB2, fB2⟩ := B2.out
  have HS2 := Lib.hid (HS.out.later HW.out)
  refine wp_region_grow 15 (fun kz => match kz with | 14 => .made wv.heap.size (fun b => .pointer (some ⟨b, 0, none⟩)) #[.slice none 0 0, .slice none 0 0, .int .i64 0, .int .i64 0, .slice none 0 0, .int .i64 0] | _ => .plain) (by kernel_rfl) (by kernel_rfl) ?_ (fun ν => ?_)
  · (intro k; (try dsimp only); split <;> first | exact True.intro | (intro u w1 w2 hu hb; exact hu.below hb))
  simp only [List.take_succ_cons, List.take_zero, List.drop_succ_cons, List.drop_zero]
  iterate 14 (refine Grow.val (v := ?_) rfl rfl (fun wg hbg hdg => ?_) ?_; rotate_left; (focus ((obtain ⟨lg0, cg0, fg0⟩ := B1.out.later hbg); (obtain ⟨lg1, cg1, fg1⟩ := B2.out.later hbg); (obtain ⟨⟨xl1, xc1, xf1⟩, xt, xg, ⟨xl2, xc2, xf2⟩, -, -, -⟩ := HS2.out.later hbg); clear hbg hdg; first | (go_simp; done) | (go_simp; with_reducible rfl))); simp only [Act.put, List.setIfInBounds_toArray, List.set_cons_zero, List.set_cons_succ])
  refine Grow.made (T := ?_) rfl rfl (fun wg hbg hdg => ?_) ?_
  rotate_left
  focus ((obtain ⟨lg0, cg0, fg0⟩ := B1.out.later hbg); (obtain ⟨lg1, cg1, fg1⟩ := B2.out.later hbg); (obtain ⟨⟨xl1, xc1, xf1⟩, xt, xg, ⟨xl2, xc2, xf2⟩, -, -, -⟩ := HS2.out.later hbg); clear hbg hdg; first | (go_simp; done) | (go_simp; with_reducible rfl))
  simp only [Act.put, Known.val, List.setIfInBounds_toArray, List.set_cons_zero, List.set_cons_succ]
  intro wg hb hf hap
  obtain ⟨bBK, hνBK, hBBK, hXBK⟩ := hf 14 (by omega)
  have nBKB1 : bBK ≠ w.heap.size := fun e => by have := lB1; omega
  have nB1BK : w.heap.size ≠ bBK := fun e => nBKB1 e.symm
  have nBKB2 : bBK ≠ w.heap.size + 1 := fun e => by have := lB2; omega
  have nB2BK : w.heap.size + 1 ≠ bBK := fun e => nBKB2 e.symm
  simp only [hνBK]
  clear hνBK
  clear hap
  have gBK := Nat.le_trans HW.out.size hBBK
  clear hBBK
  clear lB1 cB1 fB1 lB2 cB2 fB2
  replace B1 := Lib.hid (B1.out.later hb)
  replace B2 := Lib.hid (B2.out.later hb)
  replace HW := Lib.hid (HW.out.trans (hb.mono HW.out.size))
  clear hb
  have BK := Lib.hid hXBK
  clear hXBK
  obtain ⟨lB1, cB1, fB1⟩ := B1.out
  obtain ⟨lB2, cB2, fB2⟩ := B2.out
  obtain ⟨lBK, cBK, fBK⟩ := BK.out
  clear hf HS2
  go_upto_region 2 with (fail)
  have B1_ : Box ((((((wg.setCell ⟨bBK, 0, none⟩ (.slice none 0 0)).setCell ⟨bBK, 1, none⟩ (.slice (some ⟨ci, 0, none⟩) 1 1)).setCell ⟨bBK, 2, none⟩ (.int .i64 3)).setCell ⟨bBK, 3, none⟩ (.int .i64 0)).setCell ⟨bBK, 4, none⟩ (.slice none 0 0)).setCell ⟨bBK, 5, none⟩ (.int .i64 0)) (w.heap.size) #[.pointer (some ⟨bs, 0, none⟩)] := by simpa using ((((((B1.out.other (p := ⟨bBK, 0, none⟩) (.slice none 0 0) (by first | assumption | (simp; done) | omega | (dsimp only; omega))).other (p := ⟨bBK, 1, none⟩) (.slice (some ⟨ci, 0, none⟩) 1 1) (by first | assumption | (simp; done) | omega | (dsimp only; omega))).other (p := ⟨bBK, 2, none⟩) (.int .i64 3) (by first | assumption | (simp; done) | omega | (dsimp only; omega))).other (p := ⟨bBK, 3, none⟩) (.int .i64 0) (by first | assumption | (simp; done) | omega | (dsimp only; omega))).other (p := ⟨bBK, 4, none⟩) (.slice none 0 0) (by first | assumption | (simp; done) | omega | (dsimp only; omega))).other (p := ⟨bBK, 5, none⟩) (.int .i64 0) (by first | assumption | (simp; done) | omega | (dsimp only; omega)))
  have B2_ : Box ((((((wg.setCell ⟨bBK, 0, none⟩ (.slice none 0 0)).setCell ⟨bBK, 1, none⟩ (.slice (some ⟨ci, 0, none⟩) 1 1)).setCell ⟨bBK, 2, none⟩ (.int .i64 3)).setCell ⟨bBK, 3, none⟩ (.int .i64 0)).setCell ⟨bBK, 4, none⟩ (.slice none 0 0)).setCell ⟨bBK, 5, none⟩ (.int .i64 0)) (w.heap.size + 1) #[.int .i64 0] := by simpa using ((((((B2.out.other (p := ⟨bBK, 0, none⟩) (.slice none 0 0) (by first | assumption | (simp; done) | omega | (dsimp only; omega))).other (p := ⟨bBK, 1, none⟩) (.slice (some ⟨ci, 0, none⟩) 1 1) (by first | assumption | (simp; done) | omega | (dsimp only; omega))).other (p := ⟨bBK, 2, none⟩) (.int .i64 3) (by first | assumption | (simp; done) | omega | (dsimp only; omega))).other (p := ⟨bBK, 3, none⟩) (.int .i64 0) (by first | assumption | (simp; done) | omega | (dsimp only; omega))).other (p := ⟨bBK, 4, none⟩) (.slice none 0 0) (by first | assumption | (simp; done) | omega | (dsimp only; omega))).other (p := ⟨bBK, 5, none⟩) (.int .i64 0) (by first | assumption | (simp; done) | omega | (dsimp only; omega)))
  have BK_ : Box ((((((wg.setCell ⟨bBK, 0, none⟩ (.slice none 0 0)).setCell ⟨bBK, 1, none⟩ (.slice (some ⟨ci, 0, none⟩) 1 1)).setCell ⟨bBK, 2, none⟩ (.int .i64 3)).setCell ⟨bBK, 3, none⟩ (.int .i64 0)).setCell ⟨bBK, 4, none⟩ (.slice none 0 0)).setCell ⟨bBK, 5, none⟩ (.int .i64 0)) (bBK) #[(.slice none 0 0), (.slice (some ⟨ci, 0, none⟩) 1 1), (.int .i64 3), (.int .i64 0), (.slice none 0 0), (.int .i64 0)] := by simpa using ((((((BK.out.set 0 (.slice none 0 0)).set 1 (.slice (some ⟨ci, 0, none⟩) 1 1)).set 2 (.int .i64 3)).set 3 (.int .i64 0)).set 4 (.slice none 0 0)).set 5 (.int .i64 0))
  have HW_ : Below w.heap.size w ((((((wg.setCell ⟨bBK, 0, none⟩ (.slice none 0 0)).setCell ⟨bBK, 1, none⟩ (.slice (some ⟨ci, 0, none⟩) 1 1)).setCell ⟨bBK, 2, none⟩ (.int .i64 3)).setCell ⟨bBK, 3, none⟩ (.int .i64 0)).setCell ⟨bBK, 4, none⟩ (.slice none 0 0)).setCell ⟨bBK, 5, none⟩ (.int .i64 0)) := ((((((HW.out.setCell (p := ⟨bBK, 0, none⟩) (by first | assumption | omega | (dsimp only; omega) | (have := HW.out.size; omega) | (simp; done) | (simp; omega)) (.slice none 0 0)).setCell (p := ⟨bBK, 1, none⟩) (by first | assumption | omega | (dsimp only; omega) | (have := HW.out.size; omega) | (simp; done) | (simp; omega)) (.slice (some ⟨ci, 0, none⟩) 1 1)).setCell (p := ⟨bBK, 2, none⟩) (by first | assumption | omega | (dsimp only; omega) | (have := HW.out.size; omega) | (simp; done) | (simp; omega)) (.int .i64 3)).setCell (p := ⟨bBK, 3, none⟩) (by first | assumption | omega | (dsimp only; omega) | (have := HW.out.size; omega) | (simp; done) | (simp; omega)) (.int .i64 0)).setCell (p := ⟨bBK, 4, none⟩) (by first | assumption | omega | (dsimp only; omega) | (have := HW.out.size; omega) | (simp; done) | (simp; omega)) (.slice none 0 0)).setCell (p := ⟨bBK, 5, none⟩) (by first | assumption | omega | (dsimp only; omega) | (have := HW.out.size; omega) | (simp; done) | (simp; omega)) (.int .i64 0))
  clear lB1 cB1 fB1 lB2 cB2 fB2 lBK cBK fBK
  clear B1 B2 BK HW
  generalize ((((((wg.setCell ⟨bBK, 0, none⟩ (.slice none 0 0)).setCell ⟨bBK, 1, none⟩ (.slice (some ⟨ci, 0, none⟩) 1 1)).setCell ⟨bBK, 2, none⟩ (.int .i64 3)).setCell ⟨bBK, 3, none⟩ (.int .i64 0)).setCell ⟨bBK, 4, none⟩ (.slice none 0 0)).setCell ⟨bBK, 5, none⟩ (.int .i64 0)) = w2 at *
  have B1 := Lib.hid B1_
  clear B1_
  have B2 := Lib.hid B2_
  clear B2_
  have BK := Lib.hid BK_
  clear BK_
  have HW := Lib.hid HW_
  clear HW_
  obtain ⟨lB1, cB1, fB1⟩ := B1.out
  obtain ⟨lB2, cB2, fB2⟩ := B2.out
  obtain ⟨lBK, cBK, fBK⟩ := BK.out
  go_wp2_with fail
  go_loopw [30] (fun i wr => i = .int .i64 0 ∧ wr = w2) (fun _ _ => 0)
  case atStart => exact ⟨rfl, rfl⟩
  case round =>
    obtain ⟨rfl, he⟩ := hrel
    subst he
    go_wp2_with fail
    go_loopw [65] (fun i wr' => ∃ j : Nat, j ≤ 1 ∧ i = .int .i64 j ∧ Below w.heap.size w wr' ∧ Box wr' w.heap.size #[.pointer (some ⟨bs, 0, none⟩)] ∧ Box wr' (w.heap.size + 1) #[.int .i64 0] ∧ Box wr' bBK #[.slice none 0 0, .slice (some ⟨ci, 0, none⟩) 1 1, .int .i64 3, .int .i64 0, .slice none 0 0, .int .i64 0]) (fun i _ => 1 - (intOf i).toNat)
    case atStart => exact ⟨0, by omega, rfl, HW.out, B1.out, B2.out, BK.out⟩
    case round =>
      obtain ⟨j, hj, rfl, hW, hB1, hB2, hBK⟩ := hrel
      clear lB1 cB1 fB1 lB2 cB2 fB2 lBK cBK fBK
      replace HW := Lib.hid hW
      replace B1 := Lib.hid hB1
      replace B2 := Lib.hid hB2
      replace BK := Lib.hid hBK
      have HS2 := Lib.hid (HS.out.later HW.out)
      clear hW hB1 hB2 hBK
      generalize wr = w5 at *

      obtain ⟨lB1, cB1, fB1⟩ := B1.out
      obtain ⟨lB2, cB2, fB2⟩ := B2.out
      obtain ⟨lBK, cBK, fBK⟩ := BK.out
      obtain ⟨⟨cl1, cc1, cf1⟩⟩ : Nonempty (Box w5 ci #[.int .i64 1, .int .i64 0, .slice none 0 0, .int .i64 5]) := ⟨HS2.out.c⟩
      by_cases hlt : j < 1
      · obtain rfl : j = 0 := by omega
        go_upto_region 15 with (fail)
        clear cl1 cc1 cf1
        have nB10B1 : w5.heap.size ≠ w.heap.size := fun e => by have := lB1; omega
        have nB1B10 : w.heap.size ≠ w5.heap.size := fun e => nB10B1 e.symm
        have nB10B2 : w5.heap.size ≠ w.heap.size + 1 := fun e => by have := lB2; omega
        have nB2B10 : w.heap.size + 1 ≠ w5.heap.size := fun e => nB10B2 e.symm
        have nB10BK : w5.heap.size ≠ bBK := fun e => by have := lBK; omega
        have nBKB10 : bBK ≠ w5.heap.size := fun e => nB10BK e.symm
        have nB11B1 : w5.heap.size + 1 ≠ w.heap.size := fun e => by have := lB1; omega
        have nB1B11 : w.heap.size ≠ w5.heap.size + 1 := fun e => nB11B1 e.symm
        have nB11B2 : w5.heap.size + 1 ≠ w.heap.size + 1 := fun e => by have := lB2; omega
        have nB2B11 : w.heap.size + 1 ≠ w5.heap.size + 1 := fun e => nB11B2 e.symm
        have nB11BK : w5.heap.size + 1 ≠ bBK := fun e => by have := lBK; omega
        have nBKB11 : bBK ≠ w5.heap.size + 1 := fun e => nB11BK e.symm
        have nB11B10 : w5.heap.size + 1 ≠ w5.heap.size := by omega
        have nB10B11 : w5.heap.size ≠ w5.heap.size + 1 := by omega
        have B1_ : Box ((w5.alloc (.cells #[.int .i64 0] 3)).alloc (.cells #[.int .i64 1, .int .i64 0, .slice none 0 0, .int .i64 5] 84)) (w.heap.size) #[.pointer (some ⟨bs, 0, none⟩)] := by simpa using ((B1.out.alloc _).alloc _)
        have B2_ : Box ((w5.alloc (.cells #[.int .i64 0] 3)).alloc (.cells #[.int .i64 1, .int .i64 0, .slice none 0 0, .int .i64 5] 84)) (w.heap.size + 1) #[.int .i64 0] := by simpa using ((B2.out.alloc _).alloc _)
        have BK_ : Box ((w5.alloc (.cells #[.int .i64 0] 3)).alloc (.cells #[.int .i64 1, .int .i64 0, .slice none 0 0, .int .i64 5] 84)) (bBK) #[(.slice none 0 0), (.slice (some ⟨ci, 0, none⟩) 1 1), (.int .i64 3), (.int .i64 0), (.slice none 0 0), (.int .i64 0)] := by simpa using ((BK.out.alloc _).alloc _)
        have B10_ : Box ((w5.alloc (.cells #[.int .i64 0] 3)).alloc (.cells #[.int .i64 1, .int .i64 0, .slice none 0 0, .int .i64 5] 84)) (w5.heap.size) #[.int .i64 0] := by simpa using ((Box.new w5 #[.int .i64 0] 3).alloc _)
        have B11_ : Box ((w5.alloc (.cells #[.int .i64 0] 3)).alloc (.cells #[.int .i64 1, .int .i64 0, .slice none 0 0, .int .i64 5] 84)) (w5.heap.size + 1) #[.int .i64 1, .int .i64 0, .slice none 0 0, .int .i64 5] := by simpa using (Box.new (w5.alloc (.cells #[.int .i64 0] 3)) #[.int .i64 1, .int .i64 0, .slice none 0 0, .int .i64 5] 84)
        have HW_ : Below w.heap.size w ((w5.alloc (.cells #[.int .i64 0] 3)).alloc (.cells #[.int .i64 1, .int .i64 0, .slice none 0 0, .int .i64 5] 84)) := ((HW.out.alloc (by first | exact Nat.le_refl _ | exact HW.out.size | (simp only [World.size_alloc, World.size_setCell]; have := HW.out.size; omega)) _).alloc (by first | exact Nat.le_refl _ | exact HW.out.size | (simp only [World.size_alloc, World.size_setCell]; have := HW.out.size; omega)) _)
        clear lB1 cB1 fB1 lB2 cB2 fB2 lBK cBK fBK
        clear B1 B2 BK HW
        generalize ((w5.alloc (.cells #[.int .i64 0] 3)).alloc (.cells #[.int .i64 1, .int .i64 0, .slice none 0 0, .int .i64 5] 84)) = w6 at *
        have B1 := Lib.hid B1_
        clear B1_
        have B2 := Lib.hid B2_
        clear B2_
        have BK := Lib.hid BK_
        clear BK_
        have B10 := Lib.hid B10_
        clear B10_
        have B11 := Lib.hid B11_
        clear B11_
        have HW := Lib.hid HW_
        clear HW_
        obtain ⟨lB1, cB1, fB1⟩ := B1.out
        obtain ⟨lB2, cB2, fB2⟩ := B2.out
        obtain ⟨lBK, cBK, fBK⟩ := BK.out
        obtain ⟨lB10, cB10, fB10⟩ := B10.out
        obtain ⟨lB11, cB11, fB11⟩ := B11.out
        go_wp2_with fail
        refine contNoneI.mono ?_
        rintro e w7 ⟨rfl, rfl⟩
        go_wp2
        go_roundw
        case rel => exact ⟨1, by omega, by go_num, HW.out, B1.out, B2.out, BK.out⟩
        case measure => simp [intOf]
      · obtain rfl : j = 1 := by omega
        clear cl1 cc1 cf1
        go_upto_region 19 with (fail)
        have nB12B1 : w5.heap.size ≠ w.heap.size := fun e => by have := lB1; omega
        have nB1B12 : w.heap.size ≠ w5.heap.size := fun e => nB12B1 e.symm
        have nB12B2 : w5.heap.size ≠ w.heap.size + 1 := fun e => by have := lB2; omega
        have nB2B12 : w.heap.size + 1 ≠ w5.heap.size := fun e => nB12B2 e.symm
        have nB12BK : w5.heap.size ≠ bBK := fun e => by have := lBK; omega
        have nBKB12 : bBK ≠ w5.heap.size := fun e => nB12BK e.symm
        have B1_ : Box (w5.alloc (.cells #[.int .i64 3, .int .i64 0, .slice none 0 0, .int .i64 0] 53)) (w.heap.size) #[.pointer (some ⟨bs, 0, none⟩)] := by simpa using (B1.out.alloc _)
        have B2_ : Box (w5.alloc (.cells #[.int .i64 3, .int .i64 0, .slice none 0 0, .int .i64 0] 53)) (w.heap.size + 1) #[.int .i64 0] := by simpa using (B2.out.alloc _)
        have BK_ : Box (w5.alloc (.cells #[.int .i64 3, .int .i64 0, .slice none 0 0, .int .i64 0] 53)) (bBK) #[(.slice none 0 0), (.slice (some ⟨ci, 0, none⟩) 1 1), (.int .i64 3), (.int .i64 0), (.slice none 0 0), (.int .i64 0)] := by simpa using (BK.out.alloc _)
        have B12_ : Box (w5.alloc (.cells #[.int .i64 3, .int .i64 0, .slice none 0 0, .int .i64 0] 53)) (w5.heap.size) #[.int .i64 3, .int .i64 0, .slice none 0 0, .int .i64 0] := by simpa using (Box.new w5 #[.int .i64 3, .int .i64 0, .slice none 0 0, .int .i64 0] 53)
        have HW_ : Below w.heap.size w (w5.alloc (.cells #[.int .i64 3, .int .i64 0, .slice none 0 0, .int .i64 0] 53)) := (HW.out.alloc (by first | exact Nat.le_refl _ | exact HW.out.size | (simp only [World.size_alloc, World.size_setCell]; have := HW.out.size; omega)) _)
        clear lB1 cB1 fB1 lB2 cB2 fB2 lBK cBK fBK
        clear B1 B2 BK HW
        generalize (w5.alloc (.cells #[.int .i64 3, .int .i64 0, .slice none 0 0, .int .i64 0] 53)) = w6 at *
        have B1 := Lib.hid B1_
        clear B1_
        have B2 := Lib.hid B2_
        clear B2_
        have BK := Lib.hid BK_
        clear BK_
        have B12 := Lib.hid B12_
        clear B12_
        have HW := Lib.hid HW_
        clear HW_
        obtain ⟨lB1, cB1, fB1⟩ := B1.out
        obtain ⟨lB2, cB2, fB2⟩ := B2.out
        obtain ⟨lBK, cBK, fBK⟩ := BK.out
        obtain ⟨lB12, cB12, fB12⟩ := B12.out
        go_wp2_with fail
        replace HS2 := Lib.hid (HS.out.later HW.out)
        refine (aheadS HS2.out.s HS2.out.mp HS2.out.mg).mono ?_
        rintro e w7 ⟨rfl, hb⟩
        clear lB1 cB1 fB1 lB2 cB2 fB2 lBK cBK fBK lB12 cB12 fB12
        replace B1 := Lib.hid (B1.out.later hb)
        replace B2 := Lib.hid (B2.out.later hb)
        replace BK := Lib.hid (BK.out.later hb)
        replace B12 := Lib.hid (B12.out.later hb)
        replace HW := Lib.hid (HW.out.trans (hb.mono HW.out.size))
        clear hb
        obtain ⟨lB1, cB1, fB1⟩ := B1.out
        obtain ⟨lB2, cB2, fB2⟩ := B2.out
        obtain ⟨lBK, cBK, fBK⟩ := BK.out
        obtain ⟨lB12, cB12, fB12⟩ := B12.out
        go_wp2
        go_ret
        exact ⟨rfl, HW.out⟩
end Go.Proofs.Ytefpmjnimnmniaa
namespace Go.Proofs.Ytefpmjnimnmniaa
set_option linter.unusedSimpArgs false
set_option linter.unusedVariables false
open Go.RowKit
private theorem Since.alloc {w0 W : World} (h : Since w0 W) (o : Obj) : Since w0 (W.alloc o) := h.later ((Below.refl _ _).alloc (Nat.le_refl _) o)
theorem entF_simplest : entF simplest = [(0, 0, 0)] := by decide
set_option maxHeartbeats 12800000 in
set_option maxRecDepth 100000 in
theorem openS {w : World} {ci bb : Nat} (hi : Box w ci #[.int .i64 1, .int .i64 0, .slice none 0 0, .int .i64 5]) (hb : Box w bb #[.slice none 0 0, .slice (some ⟨ci, 0, none⟩) 1 1, .int .i64 3, .int .i64 0, .slice none 0 0, .int .i64 0]) :
    Calls Try.prog 89 #[.agg #[.slice none 0 0, .int .i64 0, .int .i64 0, .slice (some ⟨bb, 0, none⟩) 1 1]] w fun e w' => ∃ p, e = .returned (.tuple #[p, .int .i64 0, .int .i64 0]) ∧ Below w.heap.size w w' := by
  have HI := Lib.hid hi
  have HB := Lib.hid hb
  have HV := Lib.hid (simplest_val hi hb)
  clear hi hb
  go_enter Try.func89, Try.ntmps89
  go_upto_region 1 with (fail)
  have B1 : Hid (Box (w.alloc (.cells #[.slice none 0 0, .int .i64 0, .int .i64 0, .slice (some ⟨bb, 0, none⟩) 1 1] 30)) (w.heap.size) #[.slice none 0 0, .int .i64 0, .int .i64 0, .slice (some ⟨bb, 0, none⟩) 1 1]) := Lib.hid (by simpa using (Box.new w #[.slice none 0 0, .int .i64 0, .int .i64 0, .slice (some ⟨bb, 0, none⟩) 1 1] 30))
  have HW : Hid (Below w.heap.size w (w.alloc (.cells #[.slice none 0 0, .int .i64 0, .int .i64 0, .slice (some ⟨bb, 0, none⟩) 1 1] 30))) := Lib.hid ((Below.refl _ _).alloc (Nat.le_refl _) _)
  generalize (w.alloc (.cells #[.slice none 0 0, .int .i64 0, .int .i64 0, .slice (some ⟨bb, 0, none⟩) 1 1] 30)) = wv at *
  obtain ⟨lB1, cB1, fB1⟩ := B1.out
  go_wp2_with fail
  refine (domOpen (HV.out.below HW.out)).mono ?_
  rintro e w2 ⟨hb, ⟨hc0, -⟩ | ⟨-, bt, bg, lg, lcap, g, pv, ov, lv, O, I, rfl, hvg, hO, hT, hD⟩⟩
  · exact absurd simplest_ok.1 hc0
  · injection hvg with hvg
    subst hvg
    obtain ⟨t0, -, -, -, t6⟩ := hT.cells
    have t3 : w2.cell? ⟨bg, 3, none⟩ = some (.slice (some ⟨bb, 0, none⟩) 1 1) := hT.graph.at 3 rfl
    have HPL := Lib.hid hT.place
    have HNO : Hid (idxI (placeI simplest.blocks.length O O.length) (-1) = -1) := Lib.hid (by
      have hl1 : simplest.blocks.length = 1 := rfl
      refine idxI_no ?_
      intro hm
      obtain ⟨j, hj⟩ := List.mem_iff_getElem?.1 hm
      have hl := (List.getElem?_eq_some_iff.1 hj).1
      rw [placeI_len, hl1] at hl
      obtain rfl : j = 0 := by omega
      rw [placeI_at (by rw [hl1]; omega)] at hj
      obtain ⟨p1, p2, p3, p4, p5⟩ := hO.facts
      rw [if_pos ((p2 0).2 (.zero (by decide)))] at hj
      injection hj with hj
      omega)
    have HT0 := Lib.hid t0
    have HT3 := Lib.hid t3
    have HT6 := Lib.hid t6
    obtain ⟨S2, hS2⟩ : ∃ S2, S2 = w2 := ⟨_, rfl⟩
    rw [← hS2] at HPL HT0 HT3 HT6
    have HS : Hid (Since S2 w2) := Lib.hid (by rw [hS2]; exact Below.refl _ _)
    clear hO hT hD t0 t3 t6 hS2
    clear lB1 cB1 fB1
    replace B1 := Lib.hid (B1.out.later hb)
    replace HW := Lib.hid (HW.out.trans (hb.mono HW.out.size))
    clear hb
    obtain ⟨lB1, cB1, fB1⟩ := B1.out

    go_wp2_with fail
    refine (irOpen (HV.out.below HW.out)).mono ?_
    rintro e w3 ⟨hb, m, rfl, -, -⟩
    rw [simplest_ok.1]
    clear lB1 cB1 fB1
    replace B1 := Lib.hid (B1.out.later hb)
    replace HS := Lib.hid (HS.out.later hb)
    replace HW := Lib.hid (HW.out.trans (hb.mono HW.out.size))
    clear hb
    obtain ⟨lB1, cB1, fB1⟩ := B1.out
    go_wp2_with fail
    refine (strictDefs (HV.out.below HW.out)).mono ?_
    rintro e w4 ⟨bm, rfl, hm, -, hb⟩
    have HMP := Lib.hid hm
    clear hm
    clear lB1 cB1 fB1
    replace B1 := Lib.hid (B1.out.later hb)
    replace HS := Lib.hid (HS.out.later hb)
    replace HW := Lib.hid (HW.out.trans (hb.mono HW.out.size))
    clear hb
    obtain ⟨lB1, cB1, fB1⟩ := B1.out

    go_upto_region 6 with (fail)
    have nBSB1 : w4.heap.size ≠ w.heap.size := fun e => by have := lB1; omega
    have nB1BS : w.heap.size ≠ w4.heap.size := fun e => nBSB1 e.symm
    have B1_ : Box (w4.alloc (.cells #[.pointer (some ⟨bt, 0, none⟩), .map m, .map (some bm)] 156)) (w.heap.size) #[.slice none 0 0, .int .i64 0, .int .i64 0, .slice (some ⟨bb, 0, none⟩) 1 1] := by simpa using (B1.out.alloc _)
    have BS_ : Box (w4.alloc (.cells #[.pointer (some ⟨bt, 0, none⟩), .map m, .map (some bm)] 156)) (w4.heap.size) #[.pointer (some ⟨bt, 0, none⟩), .map m, .map (some bm)] := by simpa using (Box.new w4 #[.pointer (some ⟨bt, 0, none⟩), .map m, .map (some bm)] 156)
    have HS_ := (HS.out.alloc (.cells #[.pointer (some ⟨bt, 0, none⟩), .map m, .map (some bm)] 156))
    have HMP_ := (HMP.out.alloc (.cells #[.pointer (some ⟨bt, 0, none⟩), .map m, .map (some bm)] 156))
    have HW_ : Below w.heap.size w (w4.alloc (.cells #[.pointer (some ⟨bt, 0, none⟩), .map m, .map (some bm)] 156)) := (HW.out.alloc (by first | exact Nat.le_refl _ | exact HW.out.size | (simp only [World.size_alloc, World.size_setCell]; have := HW.out.size; omega)) _)
    clear lB1 cB1 fB1
    clear B1 HS HMP HW
    generalize (w4.alloc (.cells #[.pointer (some ⟨bt, 0, none⟩), .map m, .map (some bm)] 156)) = w5 at *
    have B1 := Lib.hid B1_
    clear B1_
    have BS := Lib.hid BS_
    clear BS_
    have HS := Lib.hid HS_
    clear HS_
    have HMP := Lib.hid HMP_
    clear HMP_
    have HW := Lib.hid HW_
    clear HW_
    obtain ⟨lB1, cB1, fB1⟩ := B1.out
    obtain ⟨lBS, cBS, fBS⟩ := BS.out
    have HSS : Hid (SimpleS w5 w4.heap.size bt bg bb ci bm (.map m) (defM (entF simplest))) := Lib.hid ⟨BS.out, (Below.cell HS.out (World.block_lt_of_cell? S2 _ HT0.out)).trans HT0.out, (Below.cell HS.out (World.block_lt_of_cell? S2 _ HT3.out)).trans HT3.out, HB.out.later HW.out, HI.out.later HW.out, HMP.out, by rw [entF_simplest]; rfl⟩
    have d0 := HSS.out.t
    have d6 := (Below.cell HS.out (World.block_lt_of_cell? S2 _ HT6.out)).trans HT6.out
    go_wp2_with fail
    refine (indexInts (x := -1) (HPL.out.below HS.out)).mono ?_
    rintro e w6 ⟨rfl, rfl⟩
    rw [HNO.out]
    clear d0 d6
    go_wp2_with fail
    go_loopw [49] (fun i wr => ∃ j : Nat, j ≤ 1 ∧ i = .int .i64 j ∧ Below w.heap.size w wr ∧ Box wr w.heap.size #[.slice none 0 0, .int .i64 0, .int .i64 0, .slice (some ⟨bb, 0, none⟩) 1 1] ∧ SimpleS wr w4.heap.size bt bg bb ci bm (.map m) (defM (entF simplest))) (fun i _ => 1 - (intOf i).toNat)
    case atStart => exact ⟨0, by omega, rfl, HW.out, B1.out, HSS.out⟩
    case round =>
      obtain ⟨j, hj, rfl, hW, hB1, hS⟩ := hrel
      clear lBS cBS fBS BS
      clear lB1 cB1 fB1
      replace HW := Lib.hid hW
      replace B1 := Lib.hid hB1
      replace HSS := Lib.hid hS
      clear hW hB1 hS HS HMP
      generalize wr = w7 at *



      obtain ⟨lB1, cB1, fB1⟩ := B1.out
      by_cases hlt : j < 1
      · obtain rfl : j = 0 := by omega
        go_wp2_with fail
        refine (phisS HSS.out).mono ?_
        rintro e w8 ⟨rfl, hb⟩
        clear lB1 cB1 fB1
        replace B1 := Lib.hid (B1.out.later hb)
        replace HSS := Lib.hid (HSS.out.later hb)
        replace HW := Lib.hid (HW.out.trans (hb.mono HW.out.size))
        clear hb
        obtain ⟨lB1, cB1, fB1⟩ := B1.out
        go_wp2
        go_roundw
        case rel => exact ⟨1, by omega, by go_num, HW.out, B1.out, HSS.out⟩
        case measure => simp [intOf]
      · go_wp2_with fail
        go_loopw [61] (fun i wr => ∃ j : Nat, j ≤ 1 ∧ i = .int .i64 j ∧ Below w.heap.size w wr ∧ SimpleS wr w4.heap.size bt bg bb ci bm (.map m) (defM (entF simplest))) (fun i _ => 1 - (intOf i).toNat)
        case atStart => exact ⟨0, by omega, rfl, HW.out, HSS.out⟩
        case round =>
          obtain ⟨j, hj, rfl, hW, hS⟩ := hrel
          clear lB1 cB1 fB1 B1
          replace HW := Lib.hid hW
          replace HSS := Lib.hid hS
          clear hW hS
          generalize wr = w9 at *



          by_cases hlt : j < 1
          · obtain rfl : j = 0 := by omega
            go_wp2_with fail
            refine (usesS HSS.out).mono ?_
            rintro e w10 ⟨rfl, hb⟩
            replace HSS := Lib.hid (HSS.out.later hb)
            replace HW := Lib.hid (HW.out.trans (hb.mono HW.out.size))
            clear hb
            go_wp2
            go_roundw
            case rel => exact ⟨1, by omega, by go_num, HW.out, HSS.out⟩
            case measure => simp [intOf]
          · obtain rfl : j = 1 := by omega
            go_wp2
            go_ret3
            exact ⟨_, rfl, HW.out⟩
set_option maxHeartbeats 3200000 in
theorem checkS {w : World} {ci bb : Nat} (hi : Box w ci #[.int .i64 1, .int .i64 0, .slice none 0 0, .int .i64 5]) (hb : Box w bb #[.slice none 0 0, .slice (some ⟨ci, 0, none⟩) 1 1, .int .i64 3, .int .i64 0, .slice none 0 0, .int .i64 0]) :
    Calls Try.prog 59 #[.agg #[.slice none 0 0, .int .i64 0, .int .i64 0, .slice (some ⟨bb, 0, none⟩) 1 1]] w fun e w' => e = .returned (.tuple #[.int .i64 0, .int .i64 0]) ∧ Below w.heap.size w w' := by
  have HI := Lib.hid hi
  have HB := Lib.hid hb
  clear hi hb
  go_enter Try.func59, Try.ntmps59
  go_upto_region 1 with (fail)
  have B1 : Hid (Box (w.alloc (.cells #[.slice none 0 0, .int .i64 0, .int .i64 0, .slice (some ⟨bb, 0, none⟩) 1 1] 30)) (w.heap.size) #[.slice none 0 0, .int .i64 0, .int .i64 0, .slice (some ⟨bb, 0, none⟩) 1 1]) := Lib.hid (by simpa using (Box.new w #[.slice none 0 0, .int .i64 0, .int .i64 0, .slice (some ⟨bb, 0, none⟩) 1 1] 30))
  have HW : Hid (Below w.heap.size w (w.alloc (.cells #[.slice none 0 0, .int .i64 0, .int .i64 0, .slice (some ⟨bb, 0, none⟩) 1 1] 30))) := Lib.hid ((Below.refl _ _).alloc (Nat.le_refl _) _)
  generalize (w.alloc (.cells #[.slice none 0 0, .int .i64 0, .int .i64 0, .slice (some ⟨bb, 0, none⟩) 1 1] 30)) = wv at *
  obtain ⟨lB1, cB1, fB1⟩ := B1.out
  go_wp2_with fail
  refine (openS (HI.out.later HW.out) (HB.out.later HW.out)).mono ?_
  rintro e w2 ⟨p, rfl, hb⟩
  clear lB1 cB1 fB1
  replace B1 := Lib.hid (B1.out.later hb)
  replace HW := Lib.hid (HW.out.trans (hb.mono HW.out.size))
  clear hb
  obtain ⟨lB1, cB1, fB1⟩ := B1.out
  go_wp2
  go_ret2
  exact ⟨rfl, HW.out⟩
end Go.Proofs.Ytefpmjnimnmniaa
