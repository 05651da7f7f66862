/- strict: the simplest function is strict (what awake asks). -/
import Derived.Test.YtefpmjnimnmniaaS4
namespace Go.Proofs.Ytefpmjnimnmniaa
set_option linter.unusedSimpArgs false
set_option linter.unusedVariables false
open Go.RowKit

/-- The simplest function's strict form in memory. -/
structure SimpleS (W : World) (bs bt bg bb ci bm : Nat) (A2 : Value) (m : List (Int × Value)) : Prop where
  s : Box W bs #[.pointer (some ⟨bt, 0, none⟩), A2, .map (some bm)]
  t : W.cell? ⟨bt, 0, none⟩ = some (.pointer (some ⟨bg, 0, none⟩))
  g : W.cell? ⟨bg, 3, none⟩ = some (.slice (some ⟨bb, 0, none⟩) 1 1)
  b : Box W bb #[.slice none 0 0, .slice (some ⟨ci, 0, none⟩) 1 1, .int .i64 3, .int .i64 0, .slice none 0 0, .int .i64 0]
  c : Box W ci #[.int .i64 1, .int .i64 0, .slice none 0 0, .int .i64 5]
  mp : IMap W bm m
  mg : mget m 0 = some (.agg #[.int .i64 0, .int .i64 0])
theorem SimpleS.later {W W' : World} {bs bt bg bb ci bm : Nat} {A2 : Value} {m : List (Int × Value)} (h : SimpleS W bs bt bg bb ci bm A2 m) (hb : Below W.heap.size W W') : SimpleS W' bs bt bg bb ci bm A2 m :=
  ⟨h.s.later hb, (hb.cell (World.block_lt_of_cell? W _ h.t)).trans h.t, (hb.cell (World.block_lt_of_cell? W _ h.g)).trans h.g, h.b.later hb, h.c.later hb, h.mp.later hb, h.mg⟩
theorem SimpleS.alloc {W : World} {bs bt bg bb ci bm : Nat} {A2 : Value} {m : List (Int × Value)} (h : SimpleS W bs bt bg bb ci bm A2 m) (o : Obj) : SimpleS (W.alloc o) bs bt bg bb ci bm A2 m := h.later ((Below.refl _ _).alloc (Nat.le_refl _) o)

set_option maxHeartbeats 6400000 in
set_option maxRecDepth 100000 in
theorem phisS {w : World} {bs bt bg bb ci bm : Nat} {A2 : Value} {m : List (Int × Value)} (hS : SimpleS w bs bt bg bb ci bm A2 m) :
    Calls Try.prog 104 #[.pointer (some ⟨bs, 0, none⟩), .int .i64 0] w fun e w' => e = .returned (.bool true) ∧ Below w.heap.size w w' := by
  have HS := Lib.hid hS
  clear hS
  go_enter Try.func104, Try.ntmps104
  go_upto_region 1 with (fail)
  have B1 : Hid (Box ((w.alloc (.cells #[.pointer (some ⟨bs, 0, none⟩)] 135)).alloc (.cells #[.int .i64 0] 3)) (w.heap.size) #[.pointer (some ⟨bs, 0, none⟩)]) := Lib.hid (by simpa using ((Box.new w #[.pointer (some ⟨bs, 0, none⟩)] 135).alloc _))
  have B2 : Hid (Box ((w.alloc (.cells #[.pointer (some ⟨bs, 0, none⟩)] 135)).alloc (.cells #[.int .i64 0] 3)) (w.heap.size + 1) #[.int .i64 0]) := Lib.hid (by simpa using (Box.new (w.alloc (.cells #[.pointer (some ⟨bs, 0, none⟩)] 135)) #[.int .i64 0] 3))
  have HW : Hid (Below w.heap.size w ((w.alloc (.cells #[.pointer (some ⟨bs, 0, none⟩)] 135)).alloc (.cells #[.int .i64 0] 3))) := Lib.hid (((Below.refl _ _).alloc (Nat.le_refl _) _).alloc (by simp) _)
  generalize ((w.alloc (.cells #[.pointer (some ⟨bs, 0, none⟩)] 135)).alloc (.cells #[.int .i64 0] 3)) = wv at *
  obtain ⟨lB1, cB1, fB1⟩ := B1.out
  obtain ⟨lB2, cB2, fB2⟩ := B2.out
  have HS2 := Lib.hid (HS.out.later HW.out)
  refine wp_region_grow 19 (fun kz => match kz with | 16 => .const (.bool false) | _ => .plain) (by kernel_rfl) (by kernel_rfl) ?_ (fun ν => ?_)
  · (intro k; (try dsimp only); split <;> first | exact True.intro | (intro u w1 w2 hu hb; exact hu.below hb))
  simp only [List.take_succ_cons, List.take_zero, List.drop_succ_cons, List.drop_zero]
  refine Grow.val (v := ?_) rfl rfl (fun wg hbg hdg => ?_) ?_
  rotate_left
  focus ((obtain ⟨lg0, cg0, fg0⟩ := B1.out.later hbg); (obtain ⟨lg1, cg1, fg1⟩ := B2.out.later hbg); (obtain ⟨⟨xl1, xc1, xf1⟩, xt, xg, ⟨xl2, xc2, xf2⟩, -, -, -⟩ := HS2.out.later hbg); clear hbg hdg; first | (go_simp; done) | (go_simp; with_reducible rfl))
  simp only [Act.put, List.setIfInBounds_toArray, List.set_cons_zero, List.set_cons_succ]
  refine Grow.val (v := ?_) rfl rfl (fun wg hbg hdg => ?_) ?_
  rotate_left
  focus ((obtain ⟨lg0, cg0, fg0⟩ := B1.out.later hbg); (obtain ⟨lg1, cg1, fg1⟩ := B2.out.later hbg); (obtain ⟨⟨xl1, xc1, xf1⟩, xt, xg, ⟨xl2, xc2, xf2⟩, -, -, -⟩ := HS2.out.later hbg); clear hbg hdg; first | (go_simp; done) | (go_simp; with_reducible rfl))
  simp only [Act.put, List.setIfInBounds_toArray, List.set_cons_zero, List.set_cons_succ]
  refine Grow.val (v := ?_) rfl rfl (fun wg hbg hdg => ?_) ?_
  rotate_left
  focus ((obtain ⟨lg0, cg0, fg0⟩ := B1.out.later hbg); (obtain ⟨lg1, cg1, fg1⟩ := B2.out.later hbg); (obtain ⟨⟨xl1, xc1, xf1⟩, xt, xg, ⟨xl2, xc2, xf2⟩, -, -, -⟩ := HS2.out.later hbg); clear hbg hdg; first | (go_simp; done) | (go_simp; with_reducible rfl))
  simp only [Act.put, List.setIfInBounds_toArray, List.set_cons_zero, List.set_cons_succ]
  refine Grow.val (v := ?_) rfl rfl (fun wg hbg hdg => ?_) ?_
  rotate_left
  focus ((obtain ⟨lg0, cg0, fg0⟩ := B1.out.later hbg); (obtain ⟨lg1, cg1, fg1⟩ := B2.out.later hbg); (obtain ⟨⟨xl1, xc1, xf1⟩, xt, xg, ⟨xl2, xc2, xf2⟩, -, -, -⟩ := HS2.out.later hbg); clear hbg hdg; first | (go_simp; done) | (go_simp; with_reducible rfl))
  simp only [Act.put, List.setIfInBounds_toArray, List.set_cons_zero, List.set_cons_succ]
  refine Grow.val (v := ?_) rfl rfl (fun wg hbg hdg => ?_) ?_
  rotate_left
  focus ((obtain ⟨lg0, cg0, fg0⟩ := B1.out.later hbg); (obtain ⟨lg1, cg1, fg1⟩ := B2.out.later hbg); (obtain ⟨⟨xl1, xc1, xf1⟩, xt, xg, ⟨xl2, xc2, xf2⟩, -, -, -⟩ := HS2.out.later hbg); clear hbg hdg; first | (go_simp; done) | (go_simp; with_reducible rfl))
  simp only [Act.put, List.setIfInBounds_toArray, List.set_cons_zero, List.set_cons_succ]
  refine Grow.val (v := ?_) rfl rfl (fun wg hbg hdg => ?_) ?_
  rotate_left
  focus ((obtain ⟨lg0, cg0, fg0⟩ := B1.out.later hbg); (obtain ⟨lg1, cg1, fg1⟩ := B2.out.later hbg); (obtain ⟨⟨xl1, xc1, xf1⟩, xt, xg, ⟨xl2, xc2, xf2⟩, -, -, -⟩ := HS2.out.later hbg); clear hbg hdg; first | (go_simp; done) | (go_simp; with_reducible rfl))
  simp only [Act.put, List.setIfInBounds_toArray, List.set_cons_zero, List.set_cons_succ]
  refine Grow.val (v := ?_) rfl rfl (fun wg hbg hdg => ?_) ?_
  rotate_left
  focus ((obtain ⟨lg0, cg0, fg0⟩ := B1.out.later hbg); (obtain ⟨lg1, cg1, fg1⟩ := B2.out.later hbg); (obtain ⟨⟨xl1, xc1, xf1⟩, xt, xg, ⟨xl2, xc2, xf2⟩, -, -, -⟩ := HS2.out.later hbg); clear hbg hdg; first | (go_simp; done) | (go_simp; with_reducible rfl))
  simp only [Act.put, List.setIfInBounds_toArray, List.set_cons_zero, List.set_cons_succ]
  refine Grow.val (v := ?_) rfl rfl (fun wg hbg hdg => ?_) ?_
  rotate_left
  focus ((obtain ⟨lg0, cg0, fg0⟩ := B1.out.later hbg); (obtain ⟨lg1, cg1, fg1⟩ := B2.out.later hbg); (obtain ⟨⟨xl1, xc1, xf1⟩, xt, xg, ⟨xl2, xc2, xf2⟩, -, -, -⟩ := HS2.out.later hbg); clear hbg hdg; first | (go_simp; done) | (go_simp; with_reducible rfl))
  simp only [Act.put, List.setIfInBounds_toArray, List.set_cons_zero, List.set_cons_succ]
  refine Grow.val (v := ?_) rfl rfl (fun wg hbg hdg => ?_) ?_
  rotate_left
  focus ((obtain ⟨lg0, cg0, fg0⟩ := B1.out.later hbg); (obtain ⟨lg1, cg1, fg1⟩ := B2.out.later hbg); (obtain ⟨⟨xl1, xc1, xf1⟩, xt, xg, ⟨xl2, xc2, xf2⟩, -, -, -⟩ := HS2.out.later hbg); clear hbg hdg; first | (go_simp; done) | (go_simp; with_reducible rfl))
  simp only [Act.put, List.setIfInBounds_toArray, List.set_cons_zero, List.set_cons_succ]
  refine Grow.val (v := ?_) rfl rfl (fun wg hbg hdg => ?_) ?_
  rotate_left
  focus ((obtain ⟨lg0, cg0, fg0⟩ := B1.out.later hbg); (obtain ⟨lg1, cg1, fg1⟩ := B2.out.later hbg); (obtain ⟨⟨xl1, xc1, xf1⟩, xt, xg, ⟨xl2, xc2, xf2⟩, -, -, -⟩ := HS2.out.later hbg); clear hbg hdg; first | (go_simp; done) | (go_simp; with_reducible rfl))
  simp only [Act.put, List.setIfInBounds_toArray, List.set_cons_zero, List.set_cons_succ]
  refine Grow.val (v := ?_) rfl rfl (fun wg hbg hdg => ?_) ?_
  rotate_left
  focus ((obtain ⟨lg0, cg0, fg0⟩ := B1.out.later hbg); (obtain ⟨lg1, cg1, fg1⟩ := B2.out.later hbg); (obtain ⟨⟨xl1, xc1, xf1⟩, xt, xg, ⟨xl2, xc2, xf2⟩, -, -, -⟩ := HS2.out.later hbg); clear hbg hdg; first | (go_simp; done) | (go_simp; with_reducible rfl))
  simp only [Act.put, List.setIfInBounds_toArray, List.set_cons_zero, List.set_cons_succ]
  refine Grow.val (v := ?_) rfl rfl (fun wg hbg hdg => ?_) ?_
  rotate_left
  focus ((obtain ⟨lg0, cg0, fg0⟩ := B1.out.later hbg); (obtain ⟨lg1, cg1, fg1⟩ := B2.out.later hbg); (obtain ⟨⟨xl1, xc1, xf1⟩, xt, xg, ⟨xl2, xc2, xf2⟩, -, -, -⟩ := HS2.out.later hbg); clear hbg hdg; first | (go_simp; done) | (go_simp; with_reducible rfl))
  simp only [Act.put, List.setIfInBounds_toArray, List.set_cons_zero, List.set_cons_succ]
  refine Grow.val (v := ?_) rfl rfl (fun wg hbg hdg => ?_) ?_
  rotate_left
  focus ((obtain ⟨lg0, cg0, fg0⟩ := B1.out.later hbg); (obtain ⟨lg1, cg1, fg1⟩ := B2.out.later hbg); (obtain ⟨⟨xl1, xc1, xf1⟩, xt, xg, ⟨xl2, xc2, xf2⟩, -, -, -⟩ := HS2.out.later hbg); clear hbg hdg; first | (go_simp; done) | (go_simp; with_reducible rfl))
  simp only [Act.put, List.setIfInBounds_toArray, List.set_cons_zero, List.set_cons_succ]
  refine Grow.val (v := ?_) rfl rfl (fun wg hbg hdg => ?_) ?_
  rotate_left
  focus ((obtain ⟨lg0, cg0, fg0⟩ := B1.out.later hbg); (obtain ⟨lg1, cg1, fg1⟩ := B2.out.later hbg); (obtain ⟨⟨xl1, xc1, xf1⟩, xt, xg, ⟨xl2, xc2, xf2⟩, -, -, -⟩ := HS2.out.later hbg); clear hbg hdg; first | (go_simp; done) | (go_simp; with_reducible rfl))
  simp only [Act.put, List.setIfInBounds_toArray, List.set_cons_zero, List.set_cons_succ]
  refine Grow.val (v := ?_) rfl rfl (fun wg hbg hdg => ?_) ?_
  rotate_left
  focus ((obtain ⟨lg0, cg0, fg0⟩ := B1.out.later hbg); (obtain ⟨lg1, cg1, fg1⟩ := B2.out.later hbg); (obtain ⟨⟨xl1, xc1, xf1⟩, xt, xg, ⟨xl2, xc2, xf2⟩, -, -, -⟩ := HS2.out.later hbg); clear hbg hdg; first | (go_simp; done) | (go_simp; with_reducible rfl))
  simp only [Act.put, List.setIfInBounds_toArray, List.set_cons_zero, List.set_cons_succ]
  refine Grow.val (v := ?_) rfl rfl (fun wg hbg hdg => ?_) ?_
  rotate_left
  focus ((obtain ⟨lg0, cg0, fg0⟩ := B1.out.later hbg); (obtain ⟨lg1, cg1, fg1⟩ := B2.out.later hbg); (obtain ⟨⟨xl1, xc1, xf1⟩, xt, xg, ⟨xl2, xc2, xf2⟩, -, -, -⟩ := HS2.out.later hbg); clear hbg hdg; first | (go_simp; done) | (go_simp; with_reducible rfl))
  simp only [Act.put, List.setIfInBounds_toArray, List.set_cons_zero, List.set_cons_succ]
  refine Grow.call (f := ?_) (args := ?_) rfl (fun wg => ?_) (fun wg hbg hdg => ?_) ?_
  rotate_left 2
  focus (first | (go_simp; done) | (go_simp; refine And.intro ?_ ?_ <;> with_reducible rfl) | (go_simp; with_reducible rfl))
  focus (exact contNoneP.mono (fun e w2 ⟨he, hb2⟩ => ⟨_, he, rfl, hb2 ▸ Below.refl _ _⟩))
  simp only [Act.put, Known.val, List.setIfInBounds_toArray, List.set_cons_zero, List.set_cons_succ]
  refine Grow.val (v := ?_) rfl rfl (fun wg hbg hdg => ?_) ?_
  rotate_left
  focus ((obtain ⟨lg0, cg0, fg0⟩ := B1.out.later hbg); (obtain ⟨lg1, cg1, fg1⟩ := B2.out.later hbg); (obtain ⟨⟨xl1, xc1, xf1⟩, xt, xg, ⟨xl2, xc2, xf2⟩, -, -, -⟩ := HS2.out.later hbg); clear hbg hdg; first | (go_simp; done) | (go_simp; with_reducible rfl))
  simp only [Act.put, List.setIfInBounds_toArray, List.set_cons_zero, List.set_cons_succ]
  refine Grow.val (v := ?_) rfl rfl (fun wg hbg hdg => ?_) ?_
  rotate_left
  focus ((obtain ⟨lg0, cg0, fg0⟩ := B1.out.later hbg); (obtain ⟨lg1, cg1, fg1⟩ := B2.out.later hbg); (obtain ⟨⟨xl1, xc1, xf1⟩, xt, xg, ⟨xl2, xc2, xf2⟩, -, -, -⟩ := HS2.out.later hbg); clear hbg hdg; first | (go_simp; done) | (go_simp; with_reducible rfl))
  simp only [Act.put, List.setIfInBounds_toArray, List.set_cons_zero, List.set_cons_succ]
  intro wg hb hf hap
  clear hap
  clear lB1 cB1 fB1 lB2 cB2 fB2
  replace B1 := Lib.hid (B1.out.later hb)
  replace B2 := Lib.hid (B2.out.later hb)
  replace HW := Lib.hid (HW.out.trans (hb.mono HW.out.size))
  clear hb
  obtain ⟨lB1, cB1, fB1⟩ := B1.out
  obtain ⟨lB2, cB2, fB2⟩ := B2.out
  clear hf
  go_wp2
  go_ret
  exact ⟨rfl, HW.out⟩
set_option maxHeartbeats 12800000 in
set_option maxRecDepth 100000 in
theorem usesS {w : World} {bs bt bg bb ci bm : Nat} {A2 : Value} {m : List (Int × Value)} (hS : SimpleS w bs bt bg bb ci bm A2 m) :
    Calls Try.prog 105 #[.pointer (some ⟨bs, 0, none⟩), .int .i64 0] w fun e w' => e = .returned (.bool true) ∧ Below w.heap.size w w' := by
  have HS := Lib.hid hS
  clear hS
  go_enter Try.func105, Try.ntmps105
  go_upto_region 1 with (fail)
  have B1 : Hid (Box ((w.alloc (.cells #[.pointer (some ⟨bs, 0, none⟩)] 135)).alloc (.cells #[.int .i64 0] 3)) (w.heap.size) #[.pointer (some ⟨bs, 0, none⟩)]) := Lib.hid (by simpa using ((Box.new w #[.pointer (some ⟨bs, 0, none⟩)] 135).alloc _))
  have B2 : Hid (Box ((w.alloc (.cells #[.pointer (some ⟨bs, 0, none⟩)] 135)).alloc (.cells #[.int .i64 0] 3)) (w.heap.size + 1) #[.int .i64 0]) := Lib.hid (by simpa using (Box.new (w.alloc (.cells #[.pointer (some ⟨bs, 0, none⟩)] 135)) #[.int .i64 0] 3))
  have HW : Hid (Below w.heap.size w ((w.alloc (.cells #[.pointer (some ⟨bs, 0, none⟩)] 135)).alloc (.cells #[.int .i64 0] 3))) := Lib.hid (((Below.refl _ _).alloc (Nat.le_refl _) _).alloc (by simp) _)
  generalize ((w.alloc (.cells #[.pointer (some ⟨bs, 0, none⟩)] 135)).alloc (.cells #[.int .i64 0] 3)) = wv at *
  obtain ⟨lB1, cB1, fB1⟩ := B1.out
  obtain ⟨lB2, cB2, fB2⟩ := B2.out
  have HS2 := Lib.hid (HS.out.later HW.out)
  refine wp_region_grow 15 (fun kz => match kz with | 14 => .made wv.heap.size (fun b => .pointer (some ⟨b, 0, none⟩)) #[.slice none 0 0, .slice none 0 0, .int .i64 0, .int .i64 0, .slice none 0 0, .int .i64 0] | _ => .plain) (by kernel_rfl) (by kernel_rfl) ?_ (fun ν => ?_)
  · (intro k; (try dsimp only); split <;> first | exact True.intro | (intro u w1 w2 hu hb; exact hu.below hb))
  simp only [List.take_succ_cons, List.take_zero, List.drop_succ_cons, List.drop_zero]
  refine Grow.val (v := ?_) rfl rfl (fun wg hbg hdg => ?_) ?_
  rotate_left
  focus ((obtain ⟨lg0, cg0, fg0⟩ := B1.out.later hbg); (obtain ⟨lg1, cg1, fg1⟩ := B2.out.later hbg); (obtain ⟨⟨xl1, xc1, xf1⟩, xt, xg, ⟨xl2, xc2, xf2⟩, -, -, -⟩ := HS2.out.later hbg); clear hbg hdg; first | (go_simp; done) | (go_simp; with_reducible rfl))
  simp only [Act.put, List.setIfInBounds_toArray, List.set_cons_zero, List.set_cons_succ]
  refine Grow.val (v := ?_) rfl rfl (fun wg hbg hdg => ?_) ?_
  rotate_left
  focus ((obtain ⟨lg0, cg0, fg0⟩ := B1.out.later hbg); (obtain ⟨lg1, cg1, fg1⟩ := B2.out.later hbg); (obtain ⟨⟨xl1, xc1, xf1⟩, xt, xg, ⟨xl2, xc2, xf2⟩, -, -, -⟩ := HS2.out.later hbg); clear hbg hdg; first | (go_simp; done) | (go_simp; with_reducible rfl))
  simp only [Act.put, List.setIfInBounds_toArray, List.set_cons_zero, List.set_cons_succ]
  refine Grow.val (v := ?_) rfl rfl (fun wg hbg hdg => ?_) ?_
  rotate_left
  focus ((obtain ⟨lg0, cg0, fg0⟩ := B1.out.later hbg); (obtain ⟨lg1, cg1, fg1⟩ := B2.out.later hbg); (obtain ⟨⟨xl1, xc1, xf1⟩, xt, xg, ⟨xl2, xc2, xf2⟩, -, -, -⟩ := HS2.out.later hbg); clear hbg hdg; first | (go_simp; done) | (go_simp; with_reducible rfl))
  simp only [Act.put, List.setIfInBounds_toArray, List.set_cons_zero, List.set_cons_succ]
  refine Grow.val (v := ?_) rfl rfl (fun wg hbg hdg => ?_) ?_
  rotate_left
  focus ((obtain ⟨lg0, cg0, fg0⟩ := B1.out.later hbg); (obtain ⟨lg1, cg1, fg1⟩ := B2.out.later hbg); (obtain ⟨⟨xl1, xc1, xf1⟩, xt, xg, ⟨xl2, xc2, xf2⟩, -, -, -⟩ := HS2.out.later hbg); clear hbg hdg; first | (go_simp; done) | (go_simp; with_reducible rfl))
  simp only [Act.put, List.setIfInBounds_toArray, List.set_cons_zero, List.set_cons_succ]
  refine Grow.val (v := ?_) rfl rfl (fun wg hbg hdg => ?_) ?_
  rotate_left
  focus ((obtain ⟨lg0, cg0, fg0⟩ := B1.out.later hbg); (obtain ⟨lg1, cg1, fg1⟩ := B2.out.later hbg); (obtain ⟨⟨xl1, xc1, xf1⟩, xt, xg, ⟨xl2, xc2, xf2⟩, -, -, -⟩ := HS2.out.later hbg); clear hbg hdg; first | (go_simp; done) | (go_simp; with_reducible rfl))
  simp only [Act.put, List.setIfInBounds_toArray, List.set_cons_zero, List.set_cons_succ]
  refine Grow.val (v := ?_) rfl rfl (fun wg hbg hdg => ?_) ?_
  rotate_left
  focus ((obtain ⟨lg0, cg0, fg0⟩ := B1.out.later hbg); (obtain ⟨lg1, cg1, fg1⟩ := B2.out.later hbg); (obtain ⟨⟨xl1, xc1, xf1⟩, xt, xg, ⟨xl2, xc2, xf2⟩, -, -, -⟩ := HS2.out.later hbg); clear hbg hdg; first | (go_simp; done) | (go_simp; with_reducible rfl))
  simp only [Act.put, List.setIfInBounds_toArray, List.set_cons_zero, List.set_cons_succ]
  refine Grow.val (v := ?_) rfl rfl (fun wg hbg hdg => ?_) ?_
  rotate_left
  focus ((obtain ⟨lg0, cg0, fg0⟩ := B1.out.later hbg); (obtain ⟨lg1, cg1, fg1⟩ := B2.out.later hbg); (obtain ⟨⟨xl1, xc1, xf1⟩, xt, xg, ⟨xl2, xc2, xf2⟩, -, -, -⟩ := HS2.out.later hbg); clear hbg hdg; first | (go_simp; done) | (go_simp; with_reducible rfl))
  simp only [Act.put, List.setIfInBounds_toArray, List.set_cons_zero, List.set_cons_succ]
  refine Grow.val (v := ?_) rfl rfl (fun wg hbg hdg => ?_) ?_
  rotate_left
  focus ((obtain ⟨lg0, cg0, fg0⟩ := B1.out.later hbg); (obtain ⟨lg1, cg1, fg1⟩ := B2.out.later hbg); (obtain ⟨⟨xl1, xc1, xf1⟩, xt, xg, ⟨xl2, xc2, xf2⟩, -, -, -⟩ := HS2.out.later hbg); clear hbg hdg; first | (go_simp; done) | (go_simp; with_reducible rfl))
  simp only [Act.put, List.setIfInBounds_toArray, List.set_cons_zero, List.set_cons_succ]
  refine Grow.val (v := ?_) rfl rfl (fun wg hbg hdg => ?_) ?_
  rotate_left
  focus ((obtain ⟨lg0, cg0, fg0⟩ := B1.out.later hbg); (obtain ⟨lg1, cg1, fg1⟩ := B2.out.later hbg); (obtain ⟨⟨xl1, xc1, xf1⟩, xt, xg, ⟨xl2, xc2, xf2⟩, -, -, -⟩ := HS2.out.later hbg); clear hbg hdg; first | (go_simp; done) | (go_simp; with_reducible rfl))
  simp only [Act.put, List.setIfInBounds_toArray, List.set_cons_zero, List.set_cons_succ]
  refine Grow.val (v := ?_) rfl rfl (fun wg hbg hdg => ?_) ?_
  rotate_left
  focus ((obtain ⟨lg0, cg0, fg0⟩ := B1.out.later hbg); (obtain ⟨lg1, cg1, fg1⟩ := B2.out.later hbg); (obtain ⟨⟨xl1, xc1, xf1⟩, xt, xg, ⟨xl2, xc2, xf2⟩, -, -, -⟩ := HS2.out.later hbg); clear hbg hdg; first | (go_simp; done) | (go_simp; with_reducible rfl))
  simp only [Act.put, List.setIfInBounds_toArray, List.set_cons_zero, List.set_cons_succ]
  refine Grow.val (v := ?_) rfl rfl (fun wg hbg hdg => ?_) ?_
  rotate_left
  focus ((obtain ⟨lg0, cg0, fg0⟩ := B1.out.later hbg); (obtain ⟨lg1, cg1, fg1⟩ := B2.out.later hbg); (obtain ⟨⟨xl1, xc1, xf1⟩, xt, xg, ⟨xl2, xc2, xf2⟩, -, -, -⟩ := HS2.out.later hbg); clear hbg hdg; first | (go_simp; done) | (go_simp; with_reducible rfl))
  simp only [Act.put, List.setIfInBounds_toArray, List.set_cons_zero, List.set_cons_succ]
  refine Grow.val (v := ?_) rfl rfl (fun wg hbg hdg => ?_) ?_
  rotate_left
  focus ((obtain ⟨lg0, cg0, fg0⟩ := B1.out.later hbg); (obtain ⟨lg1, cg1, fg1⟩ := B2.out.later hbg); (obtain ⟨⟨xl1, xc1, xf1⟩, xt, xg, ⟨xl2, xc2, xf2⟩, -, -, -⟩ := HS2.out.later hbg); clear hbg hdg; first | (go_simp; done) | (go_simp; with_reducible rfl))
  simp only [Act.put, List.setIfInBounds_toArray, List.set_cons_zero, List.set_cons_succ]
  refine Grow.val (v := ?_) rfl rfl (fun wg hbg hdg => ?_) ?_
  rotate_left
  focus ((obtain ⟨lg0, cg0, fg0⟩ := B1.out.later hbg); (obtain ⟨lg1, cg1, fg1⟩ := B2.out.later hbg); (obtain ⟨⟨xl1, xc1, xf1⟩, xt, xg, ⟨xl2, xc2, xf2⟩, -, -, -⟩ := HS2.out.later hbg); clear hbg hdg; first | (go_simp; done) | (go_simp; with_reducible rfl))
  simp only [Act.put, List.setIfInBounds_toArray, List.set_cons_zero, List.set_cons_succ]
  refine Grow.val (v := ?_) rfl rfl (fun wg hbg hdg => ?_) ?_
  rotate_left
  focus ((obtain ⟨lg0, cg0, fg0⟩ := B1.out.later hbg); (obtain ⟨lg1, cg1, fg1⟩ := B2.out.later hbg); (obtain ⟨⟨xl1, xc1, xf1⟩, xt, xg, ⟨xl2, xc2, xf2⟩, -, -, -⟩ := HS2.out.later hbg); clear hbg hdg; first | (go_simp; done) | (go_simp; with_reducible rfl))
  simp only [Act.put, List.setIfInBounds_toArray, List.set_cons_zero, List.set_cons_succ]
  refine Grow.made (T := ?_) rfl rfl (fun wg hbg hdg => ?_) ?_
  rotate_left
  focus ((obtain ⟨lg0, cg0, fg0⟩ := B1.out.later hbg); (obtain ⟨lg1, cg1, fg1⟩ := B2.out.later hbg); (obtain ⟨⟨xl1, xc1, xf1⟩, xt, xg, ⟨xl2, xc2, xf2⟩, -, -, -⟩ := HS2.out.later hbg); clear hbg hdg; first | (go_simp; done) | (go_simp; with_reducible rfl))
  simp only [Act.put, Known.val, List.setIfInBounds_toArray, List.set_cons_zero, List.set_cons_succ]
  intro wg hb hf hap
  obtain ⟨bBK, hνBK, hBBK, hXBK⟩ := hf 14 (by omega)
  have nBKB1 : bBK ≠ w.heap.size := fun e => by have := lB1; omega
  have nB1BK : w.heap.size ≠ bBK := fun e => nBKB1 e.symm
  have nBKB2 : bBK ≠ w.heap.size + 1 := fun e => by have := lB2; omega
  have nB2BK : w.heap.size + 1 ≠ bBK := fun e => nBKB2 e.symm
  simp only [hνBK]
  clear hνBK
  clear hap
  have gBK := Nat.le_trans HW.out.size hBBK
  clear hBBK
  clear lB1 cB1 fB1 lB2 cB2 fB2
  replace B1 := Lib.hid (B1.out.later hb)
  replace B2 := Lib.hid (B2.out.later hb)
  replace HW := Lib.hid (HW.out.trans (hb.mono HW.out.size))
  clear hb
  have BK := Lib.hid hXBK
  clear hXBK
  obtain ⟨lB1, cB1, fB1⟩ := B1.out
  obtain ⟨lB2, cB2, fB2⟩ := B2.out
  obtain ⟨lBK, cBK, fBK⟩ := BK.out
  clear hf HS2
  go_upto_region 2 with (fail)
  have B1_ : Box ((((((wg.setCell ⟨bBK, 0, none⟩ (.slice none 0 0)).setCell ⟨bBK, 1, none⟩ (.slice (some ⟨ci, 0, none⟩) 1 1)).setCell ⟨bBK, 2, none⟩ (.int .i64 3)).setCell ⟨bBK, 3, none⟩ (.int .i64 0)).setCell ⟨bBK, 4, none⟩ (.slice none 0 0)).setCell ⟨bBK, 5, none⟩ (.int .i64 0)) (w.heap.size) #[.pointer (some ⟨bs, 0, none⟩)] := by simpa using ((((((B1.out.other (p := ⟨bBK, 0, none⟩) (.slice none 0 0) (by first | assumption | (simp; done) | omega)).other (p := ⟨bBK, 1, none⟩) (.slice (some ⟨ci, 0, none⟩) 1 1) (by first | assumption | (simp; done) | omega)).other (p := ⟨bBK, 2, none⟩) (.int .i64 3) (by first | assumption | (simp; done) | omega)).other (p := ⟨bBK, 3, none⟩) (.int .i64 0) (by first | assumption | (simp; done) | omega)).other (p := ⟨bBK, 4, none⟩) (.slice none 0 0) (by first | assumption | (simp; done) | omega)).other (p := ⟨bBK, 5, none⟩) (.int .i64 0) (by first | assumption | (simp; done) | omega))
  have B2_ : Box ((((((wg.setCell ⟨bBK, 0, none⟩ (.slice none 0 0)).setCell ⟨bBK, 1, none⟩ (.slice (some ⟨ci, 0, none⟩) 1 1)).setCell ⟨bBK, 2, none⟩ (.int .i64 3)).setCell ⟨bBK, 3, none⟩ (.int .i64 0)).setCell ⟨bBK, 4, none⟩ (.slice none 0 0)).setCell ⟨bBK, 5, none⟩ (.int .i64 0)) (w.heap.size + 1) #[.int .i64 0] := by simpa using ((((((B2.out.other (p := ⟨bBK, 0, none⟩) (.slice none 0 0) (by first | assumption | (simp; done) | omega)).other (p := ⟨bBK, 1, none⟩) (.slice (some ⟨ci, 0, none⟩) 1 1) (by first | assumption | (simp; done) | omega)).other (p := ⟨bBK, 2, none⟩) (.int .i64 3) (by first | assumption | (simp; done) | omega)).other (p := ⟨bBK, 3, none⟩) (.int .i64 0) (by first | assumption | (simp; done) | omega)).other (p := ⟨bBK, 4, none⟩) (.slice none 0 0) (by first | assumption | (simp; done) | omega)).other (p := ⟨bBK, 5, none⟩) (.int .i64 0) (by first | assumption | (simp; done) | omega))
  have BK_ : Box ((((((wg.setCell ⟨bBK, 0, none⟩ (.slice none 0 0)).setCell ⟨bBK, 1, none⟩ (.slice (some ⟨ci, 0, none⟩) 1 1)).setCell ⟨bBK, 2, none⟩ (.int .i64 3)).setCell ⟨bBK, 3, none⟩ (.int .i64 0)).setCell ⟨bBK, 4, none⟩ (.slice none 0 0)).setCell ⟨bBK, 5, none⟩ (.int .i64 0)) (bBK) #[(.slice none 0 0), (.slice (some ⟨ci, 0, none⟩) 1 1), (.int .i64 3), (.int .i64 0), (.slice none 0 0), (.int .i64 0)] := by simpa using ((((((BK.out.set 0 (.slice none 0 0)).set 1 (.slice (some ⟨ci, 0, none⟩) 1 1)).set 2 (.int .i64 3)).set 3 (.int .i64 0)).set 4 (.slice none 0 0)).set 5 (.int .i64 0))
  have HW_ : Below w.heap.size w ((((((wg.setCell ⟨bBK, 0, none⟩ (.slice none 0 0)).setCell ⟨bBK, 1, none⟩ (.slice (some ⟨ci, 0, none⟩) 1 1)).setCell ⟨bBK, 2, none⟩ (.int .i64 3)).setCell ⟨bBK, 3, none⟩ (.int .i64 0)).setCell ⟨bBK, 4, none⟩ (.slice none 0 0)).setCell ⟨bBK, 5, none⟩ (.int .i64 0)) := ((((((HW.out.setCell (p := ⟨bBK, 0, none⟩) (by first | assumption | omega | (have := HW.out.size; omega) | (simp; omega)) (.slice none 0 0)).setCell (p := ⟨bBK, 1, none⟩) (by first | assumption | omega | (have := HW.out.size; omega) | (simp; omega)) (.slice (some ⟨ci, 0, none⟩) 1 1)).setCell (p := ⟨bBK, 2, none⟩) (by first | assumption | omega | (have := HW.out.size; omega) | (simp; omega)) (.int .i64 3)).setCell (p := ⟨bBK, 3, none⟩) (by first | assumption | omega | (have := HW.out.size; omega) | (simp; omega)) (.int .i64 0)).setCell (p := ⟨bBK, 4, none⟩) (by first | assumption | omega | (have := HW.out.size; omega) | (simp; omega)) (.slice none 0 0)).setCell (p := ⟨bBK, 5, none⟩) (by first | assumption | omega | (have := HW.out.size; omega) | (simp; omega)) (.int .i64 0))
  clear lB1 cB1 fB1 lB2 cB2 fB2 lBK cBK fBK
  clear B1 B2 BK HW
  generalize ((((((wg.setCell ⟨bBK, 0, none⟩ (.slice none 0 0)).setCell ⟨bBK, 1, none⟩ (.slice (some ⟨ci, 0, none⟩) 1 1)).setCell ⟨bBK, 2, none⟩ (.int .i64 3)).setCell ⟨bBK, 3, none⟩ (.int .i64 0)).setCell ⟨bBK, 4, none⟩ (.slice none 0 0)).setCell ⟨bBK, 5, none⟩ (.int .i64 0)) = w2 at *
  have B1 := Lib.hid B1_
  clear B1_
  have B2 := Lib.hid B2_
  clear B2_
  have BK := Lib.hid BK_
  clear BK_
  have HW := Lib.hid HW_
  clear HW_
  obtain ⟨lB1, cB1, fB1⟩ := B1.out
  obtain ⟨lB2, cB2, fB2⟩ := B2.out
  obtain ⟨lBK, cBK, fBK⟩ := BK.out
  go_wp2_with fail
  go_loopw [30] (fun i wr => i = .int .i64 0 ∧ wr = w2) (fun _ _ => 0)
  case atStart => exact ⟨rfl, rfl⟩
  case round =>
    obtain ⟨rfl, he⟩ := hrel
    subst he
    go_wp2_with fail
    go_loopw [65] (fun i wr' => ∃ j : Nat, j ≤ 1 ∧ i = .int .i64 j ∧ Below w.heap.size w wr' ∧ Box wr' w.heap.size #[.pointer (some ⟨bs, 0, none⟩)] ∧ Box wr' (w.heap.size + 1) #[.int .i64 0] ∧ Box wr' bBK #[.slice none 0 0, .slice (some ⟨ci, 0, none⟩) 1 1, .int .i64 3, .int .i64 0, .slice none 0 0, .int .i64 0]) (fun i _ => 1 - (intOf i).toNat)
    case atStart => exact ⟨0, by omega, rfl, HW.out, B1.out, B2.out, BK.out⟩
    case round =>
      obtain ⟨j, hj, rfl, hW, hB1, hB2, hBK⟩ := hrel
      clear lB1 cB1 fB1 lB2 cB2 fB2 lBK cBK fBK
      replace HW := Lib.hid hW
      replace B1 := Lib.hid hB1
      replace B2 := Lib.hid hB2
      replace BK := Lib.hid hBK
      have HS2 := Lib.hid (HS.out.later HW.out)
      clear hW hB1 hB2 hBK
      generalize wr = w5 at *

      obtain ⟨lB1, cB1, fB1⟩ := B1.out
      obtain ⟨lB2, cB2, fB2⟩ := B2.out
      obtain ⟨lBK, cBK, fBK⟩ := BK.out
      obtain ⟨⟨cl1, cc1, cf1⟩⟩ : Nonempty (Box w5 ci #[.int .i64 1, .int .i64 0, .slice none 0 0, .int .i64 5]) := ⟨HS2.out.c⟩
      by_cases hlt : j < 1
      · obtain rfl : j = 0 := by omega
        go_upto_region 15 with (fail)
        clear cl1 cc1 cf1
        have nB10B1 : w5.heap.size ≠ w.heap.size := fun e => by have := lB1; omega
        have nB1B10 : w.heap.size ≠ w5.heap.size := fun e => nB10B1 e.symm
        have nB10B2 : w5.heap.size ≠ w.heap.size + 1 := fun e => by have := lB2; omega
        have nB2B10 : w.heap.size + 1 ≠ w5.heap.size := fun e => nB10B2 e.symm
        have nB10BK : w5.heap.size ≠ bBK := fun e => by have := lBK; omega
        have nBKB10 : bBK ≠ w5.heap.size := fun e => nB10BK e.symm
        have nB11B1 : w5.heap.size + 1 ≠ w.heap.size := fun e => by have := lB1; omega
        have nB1B11 : w.heap.size ≠ w5.heap.size + 1 := fun e => nB11B1 e.symm
        have nB11B2 : w5.heap.size + 1 ≠ w.heap.size + 1 := fun e => by have := lB2; omega
        have nB2B11 : w.heap.size + 1 ≠ w5.heap.size + 1 := fun e => nB11B2 e.symm
        have nB11BK : w5.heap.size + 1 ≠ bBK := fun e => by have := lBK; omega
        have nBKB11 : bBK ≠ w5.heap.size + 1 := fun e => nB11BK e.symm
        have nB11B10 : w5.heap.size + 1 ≠ w5.heap.size := by omega
        have nB10B11 : w5.heap.size ≠ w5.heap.size + 1 := by omega
        have B1_ : Box ((w5.alloc (.cells #[.int .i64 0] 3)).alloc (.cells #[.int .i64 1, .int .i64 0, .slice none 0 0, .int .i64 5] 84)) (w.heap.size) #[.pointer (some ⟨bs, 0, none⟩)] := by simpa using ((B1.out.alloc _).alloc _)
        have B2_ : Box ((w5.alloc (.cells #[.int .i64 0] 3)).alloc (.cells #[.int .i64 1, .int .i64 0, .slice none 0 0, .int .i64 5] 84)) (w.heap.size + 1) #[.int .i64 0] := by simpa using ((B2.out.alloc _).alloc _)
        have BK_ : Box ((w5.alloc (.cells #[.int .i64 0] 3)).alloc (.cells #[.int .i64 1, .int .i64 0, .slice none 0 0, .int .i64 5] 84)) (bBK) #[(.slice none 0 0), (.slice (some ⟨ci, 0, none⟩) 1 1), (.int .i64 3), (.int .i64 0), (.slice none 0 0), (.int .i64 0)] := by simpa using ((BK.out.alloc _).alloc _)
        have B10_ : Box ((w5.alloc (.cells #[.int .i64 0] 3)).alloc (.cells #[.int .i64 1, .int .i64 0, .slice none 0 0, .int .i64 5] 84)) (w5.heap.size) #[.int .i64 0] := by simpa using ((Box.new w5 #[.int .i64 0] 3).alloc _)
        have B11_ : Box ((w5.alloc (.cells #[.int .i64 0] 3)).alloc (.cells #[.int .i64 1, .int .i64 0, .slice none 0 0, .int .i64 5] 84)) (w5.heap.size + 1) #[.int .i64 1, .int .i64 0, .slice none 0 0, .int .i64 5] := by simpa using (Box.new (w5.alloc (.cells #[.int .i64 0] 3)) #[.int .i64 1, .int .i64 0, .slice none 0 0, .int .i64 5] 84)
        have HW_ : Below w.heap.size w ((w5.alloc (.cells #[.int .i64 0] 3)).alloc (.cells #[.int .i64 1, .int .i64 0, .slice none 0 0, .int .i64 5] 84)) := ((HW.out.alloc (by first | exact Nat.le_refl _ | exact HW.out.size | (simp only [World.size_alloc, World.size_setCell]; have := HW.out.size; omega)) _).alloc (by first | exact Nat.le_refl _ | exact HW.out.size | (simp only [World.size_alloc, World.size_setCell]; have := HW.out.size; omega)) _)
        clear lB1 cB1 fB1 lB2 cB2 fB2 lBK cBK fBK
        clear B1 B2 BK HW
        generalize ((w5.alloc (.cells #[.int .i64 0] 3)).alloc (.cells #[.int .i64 1, .int .i64 0, .slice none 0 0, .int .i64 5] 84)) = w6 at *
        have B1 := Lib.hid B1_
        clear B1_
        have B2 := Lib.hid B2_
        clear B2_
        have BK := Lib.hid BK_
        clear BK_
        have B10 := Lib.hid B10_
        clear B10_
        have B11 := Lib.hid B11_
        clear B11_
        have HW := Lib.hid HW_
        clear HW_
        obtain ⟨lB1, cB1, fB1⟩ := B1.out
        obtain ⟨lB2, cB2, fB2⟩ := B2.out
        obtain ⟨lBK, cBK, fBK⟩ := BK.out
        obtain ⟨lB10, cB10, fB10⟩ := B10.out
        obtain ⟨lB11, cB11, fB11⟩ := B11.out
        go_wp2_with fail
        refine contNoneI.mono ?_
        rintro e w7 ⟨rfl, rfl⟩
        go_wp2
        go_roundw
        case rel => exact ⟨1, by omega, by go_num, HW.out, B1.out, B2.out, BK.out⟩
        case measure => simp [intOf]
      · obtain rfl : j = 1 := by omega
        clear cl1 cc1 cf1
        go_upto_region 19 with (fail)
        have nB12B1 : w5.heap.size ≠ w.heap.size := fun e => by have := lB1; omega
        have nB1B12 : w.heap.size ≠ w5.heap.size := fun e => nB12B1 e.symm
        have nB12B2 : w5.heap.size ≠ w.heap.size + 1 := fun e => by have := lB2; omega
        have nB2B12 : w.heap.size + 1 ≠ w5.heap.size := fun e => nB12B2 e.symm
        have nB12BK : w5.heap.size ≠ bBK := fun e => by have := lBK; omega
        have nBKB12 : bBK ≠ w5.heap.size := fun e => nB12BK e.symm
        have B1_ : Box (w5.alloc (.cells #[.int .i64 3, .int .i64 0, .slice none 0 0, .int .i64 0] 53)) (w.heap.size) #[.pointer (some ⟨bs, 0, none⟩)] := by simpa using (B1.out.alloc _)
        have B2_ : Box (w5.alloc (.cells #[.int .i64 3, .int .i64 0, .slice none 0 0, .int .i64 0] 53)) (w.heap.size + 1) #[.int .i64 0] := by simpa using (B2.out.alloc _)
        have BK_ : Box (w5.alloc (.cells #[.int .i64 3, .int .i64 0, .slice none 0 0, .int .i64 0] 53)) (bBK) #[(.slice none 0 0), (.slice (some ⟨ci, 0, none⟩) 1 1), (.int .i64 3), (.int .i64 0), (.slice none 0 0), (.int .i64 0)] := by simpa using (BK.out.alloc _)
        have B12_ : Box (w5.alloc (.cells #[.int .i64 3, .int .i64 0, .slice none 0 0, .int .i64 0] 53)) (w5.heap.size) #[.int .i64 3, .int .i64 0, .slice none 0 0, .int .i64 0] := by simpa using (Box.new w5 #[.int .i64 3, .int .i64 0, .slice none 0 0, .int .i64 0] 53)
        have HW_ : Below w.heap.size w (w5.alloc (.cells #[.int .i64 3, .int .i64 0, .slice none 0 0, .int .i64 0] 53)) := (HW.out.alloc (by first | exact Nat.le_refl _ | exact HW.out.size | (simp only [World.size_alloc, World.size_setCell]; have := HW.out.size; omega)) _)
        clear lB1 cB1 fB1 lB2 cB2 fB2 lBK cBK fBK
        clear B1 B2 BK HW
        generalize (w5.alloc (.cells #[.int .i64 3, .int .i64 0, .slice none 0 0, .int .i64 0] 53)) = w6 at *
        have B1 := Lib.hid B1_
        clear B1_
        have B2 := Lib.hid B2_
        clear B2_
        have BK := Lib.hid BK_
        clear BK_
        have B12 := Lib.hid B12_
        clear B12_
        have HW := Lib.hid HW_
        clear HW_
        obtain ⟨lB1, cB1, fB1⟩ := B1.out
        obtain ⟨lB2, cB2, fB2⟩ := B2.out
        obtain ⟨lBK, cBK, fBK⟩ := BK.out
        obtain ⟨lB12, cB12, fB12⟩ := B12.out
        go_wp2_with fail
        replace HS2 := Lib.hid (HS.out.later HW.out)
        refine (aheadS HS2.out.s HS2.out.mp HS2.out.mg).mono ?_
        rintro e w7 ⟨rfl, hb⟩
        clear lB1 cB1 fB1 lB2 cB2 fB2 lBK cBK fBK lB12 cB12 fB12
        replace B1 := Lib.hid (B1.out.later hb)
        replace B2 := Lib.hid (B2.out.later hb)
        replace BK := Lib.hid (BK.out.later hb)
        replace B12 := Lib.hid (B12.out.later hb)
        replace HW := Lib.hid (HW.out.trans (hb.mono HW.out.size))
        clear hb
        obtain ⟨lB1, cB1, fB1⟩ := B1.out
        obtain ⟨lB2, cB2, fB2⟩ := B2.out
        obtain ⟨lBK, cBK, fBK⟩ := BK.out
        obtain ⟨lB12, cB12, fB12⟩ := B12.out
        go_wp2
        go_ret
        exact ⟨rfl, HW.out⟩
end Go.Proofs.Ytefpmjnimnmniaa
