/- What the claim needs, part 28. -/
import Derived.Test.YtjmikinbdclfbaaCB27
import Derived.Test.YtjmikinbdclfbaaCB13
namespace Go.Proofs.Ytjmikinbdclfbaa
set_option linter.unusedSimpArgs false
set_option linter.unusedVariables false
open Go.RowKit
theorem bitC {w : World} (b : Bool) : Calls Try.prog 25 #[.bool b] w (SameR (.int .i64 (flagI b)) w) := by
  cases b
  · skip
    go_enter Try.func25, Try.ntmps25
    go_wp2
    go_ret
    exact ⟨rfl, Below.refl _ _⟩
  · skip
    go_enter Try.func25, Try.ntmps25
    go_wp2
    go_ret
    exact ⟨rfl, Below.refl _ _⟩
theorem mod64 (b : Int) : (IntKind.u64.wrap b).tmod 64 = b % 64 := by
  have h1 : IntKind.u64.wrap b = b % 18446744073709551616 := by simp [IntKind.wrap, IntKind.signed, IntKind.bits]
  rw [h1, Int.tmod_eq_emod_of_nonneg (by omega)]
  omega
set_option maxRecDepth 100000 in
set_option maxHeartbeats 1600000 in
theorem rcalc3 {w : World} {bk o c : Nat} {x y : Int} (hl : bk < w.heap.size) (hx : w.cell? ⟨bk, o, none⟩ = some (.int .i64 x)) (hy : w.cell? ⟨bk, o + 1, none⟩ = some (.int .i64 y)) (hok : True) :
    Calls Try.prog 11 #[.int .i64 3, .slice (some ⟨bk, o, none⟩) 2 c] w (SameR (.tuple #[.int .i64 (calc2 3 x y), .int .i64 0]) w) := by
  have hc : calc2 3 x y = wrap64 (x + y) := by rw [← i64_wrap]; rfl
  rw [hc]
  clear hc
  have m64 := mod64 y
  have h0 : 0 ≤ y % 64 := by omega
  go_enter Try.func11, Try.ntmps11
  go_wp2_with fail
  refine (show Calls Try.prog 24 #[.int .i64 3] w (fun e w' => e = .returned (.tuple #[.string ⟨#[73, 73]⟩, .int .i64 1, .int .i64 0, .bool true]) ∧ w = w') from refShape 3).mono ?_
  rintro e w1 ⟨rfl, rfl⟩
  go_upto_region 12 with (fail)
  go_quiet (fail); go_wp2; go_ret2; exact ⟨rfl, below_drewN (Below.refl _ _) nq⟩
set_option maxRecDepth 100000 in
set_option maxHeartbeats 1600000 in
theorem rcalc4 {w : World} {bk o c : Nat} {x y : Int} (hl : bk < w.heap.size) (hx : w.cell? ⟨bk, o, none⟩ = some (.int .i64 x)) (hy : w.cell? ⟨bk, o + 1, none⟩ = some (.int .i64 y)) (hok : True) :
    Calls Try.prog 11 #[.int .i64 4, .slice (some ⟨bk, o, none⟩) 2 c] w (SameR (.tuple #[.int .i64 (calc2 4 x y), .int .i64 0]) w) := by
  have hc : calc2 4 x y = wrap64 (x - y) := by rw [← i64_wrap]; rfl
  rw [hc]
  clear hc
  have m64 := mod64 y
  have h0 : 0 ≤ y % 64 := by omega
  go_enter Try.func11, Try.ntmps11
  go_wp2_with fail
  refine (show Calls Try.prog 24 #[.int .i64 4] w (fun e w' => e = .returned (.tuple #[.string ⟨#[73, 73]⟩, .int .i64 1, .int .i64 0, .bool true]) ∧ w = w') from refShape 4).mono ?_
  rintro e w1 ⟨rfl, rfl⟩
  go_upto_region 14 with (fail)
  go_quiet (fail); go_wp2; go_ret2; exact ⟨rfl, below_drewN (Below.refl _ _) nq⟩
set_option maxRecDepth 100000 in
set_option maxHeartbeats 1600000 in
theorem rcalc5 {w : World} {bk o c : Nat} {x y : Int} (hl : bk < w.heap.size) (hx : w.cell? ⟨bk, o, none⟩ = some (.int .i64 x)) (hy : w.cell? ⟨bk, o + 1, none⟩ = some (.int .i64 y)) (hok : True) :
    Calls Try.prog 11 #[.int .i64 5, .slice (some ⟨bk, o, none⟩) 2 c] w (SameR (.tuple #[.int .i64 (calc2 5 x y), .int .i64 0]) w) := by
  have hc : calc2 5 x y = wrap64 (x * y) := by rw [← i64_wrap]; rfl
  rw [hc]
  clear hc
  have m64 := mod64 y
  have h0 : 0 ≤ y % 64 := by omega
  go_enter Try.func11, Try.ntmps11
  go_wp2_with fail
  refine (show Calls Try.prog 24 #[.int .i64 5] w (fun e w' => e = .returned (.tuple #[.string ⟨#[73, 73]⟩, .int .i64 1, .int .i64 0, .bool true]) ∧ w = w') from refShape 5).mono ?_
  rintro e w1 ⟨rfl, rfl⟩
  go_upto_region 16 with (fail)
  go_quiet (fail); go_wp2; go_ret2; exact ⟨rfl, below_drewN (Below.refl _ _) nq⟩
set_option maxRecDepth 100000 in
set_option maxHeartbeats 1600000 in
theorem rcalc6 {w : World} {bk o c : Nat} {x y : Int} (hl : bk < w.heap.size) (hx : w.cell? ⟨bk, o, none⟩ = some (.int .i64 x)) (hy : w.cell? ⟨bk, o + 1, none⟩ = some (.int .i64 y)) (hok : True) :
    Calls Try.prog 11 #[.int .i64 6, .slice (some ⟨bk, o, none⟩) 2 c] w (SameR (.tuple #[.int .i64 (calc2 6 x y), .int .i64 0]) w) := by
  have hc : calc2 6 x y = bits .and .i64 x y := rfl
  rw [hc]
  clear hc
  have m64 := mod64 y
  have h0 : 0 ≤ y % 64 := by omega
  go_enter Try.func11, Try.ntmps11
  go_wp2_with fail
  refine (show Calls Try.prog 24 #[.int .i64 6] w (fun e w' => e = .returned (.tuple #[.string ⟨#[73, 73]⟩, .int .i64 1, .int .i64 0, .bool true]) ∧ w = w') from refShape 6).mono ?_
  rintro e w1 ⟨rfl, rfl⟩
  go_upto_region 18 with (fail)
  go_quiet (fail); go_wp2; go_ret2; exact ⟨rfl, below_drewN (Below.refl _ _) nq⟩
set_option maxRecDepth 100000 in
set_option maxHeartbeats 1600000 in
theorem rcalc7 {w : World} {bk o c : Nat} {x y : Int} (hl : bk < w.heap.size) (hx : w.cell? ⟨bk, o, none⟩ = some (.int .i64 x)) (hy : w.cell? ⟨bk, o + 1, none⟩ = some (.int .i64 y)) (hok : True) :
    Calls Try.prog 11 #[.int .i64 7, .slice (some ⟨bk, o, none⟩) 2 c] w (SameR (.tuple #[.int .i64 (calc2 7 x y), .int .i64 0]) w) := by
  have hc : calc2 7 x y = bits .or .i64 x y := rfl
  rw [hc]
  clear hc
  have m64 := mod64 y
  have h0 : 0 ≤ y % 64 := by omega
  go_enter Try.func11, Try.ntmps11
  go_wp2_with fail
  refine (show Calls Try.prog 24 #[.int .i64 7] w (fun e w' => e = .returned (.tuple #[.string ⟨#[73, 73]⟩, .int .i64 1, .int .i64 0, .bool true]) ∧ w = w') from refShape 7).mono ?_
  rintro e w1 ⟨rfl, rfl⟩
  go_upto_region 20 with (fail)
  go_quiet (fail); go_wp2; go_ret2; exact ⟨rfl, below_drewN (Below.refl _ _) nq⟩
set_option maxRecDepth 100000 in
set_option maxHeartbeats 1600000 in
theorem rcalc8 {w : World} {bk o c : Nat} {x y : Int} (hl : bk < w.heap.size) (hx : w.cell? ⟨bk, o, none⟩ = some (.int .i64 x)) (hy : w.cell? ⟨bk, o + 1, none⟩ = some (.int .i64 y)) (hok : True) :
    Calls Try.prog 11 #[.int .i64 8, .slice (some ⟨bk, o, none⟩) 2 c] w (SameR (.tuple #[.int .i64 (calc2 8 x y), .int .i64 0]) w) := by
  have hc : calc2 8 x y = bits .xor .i64 x y := rfl
  rw [hc]
  clear hc
  have m64 := mod64 y
  have h0 : 0 ≤ y % 64 := by omega
  go_enter Try.func11, Try.ntmps11
  go_wp2_with fail
  refine (show Calls Try.prog 24 #[.int .i64 8] w (fun e w' => e = .returned (.tuple #[.string ⟨#[73, 73]⟩, .int .i64 1, .int .i64 0, .bool true]) ∧ w = w') from refShape 8).mono ?_
  rintro e w1 ⟨rfl, rfl⟩
  go_upto_region 22 with (fail)
  go_quiet (fail); go_wp2; go_ret2; exact ⟨rfl, below_drewN (Below.refl _ _) nq⟩
set_option maxRecDepth 100000 in
set_option maxHeartbeats 1600000 in
theorem rcalc9 {w : World} {bk o c : Nat} {x y : Int} (hl : bk < w.heap.size) (hx : w.cell? ⟨bk, o, none⟩ = some (.int .i64 x)) (hy : w.cell? ⟨bk, o + 1, none⟩ = some (.int .i64 y)) (hok : True) :
    Calls Try.prog 11 #[.int .i64 9, .slice (some ⟨bk, o, none⟩) 2 c] w (SameR (.tuple #[.int .i64 (calc2 9 x y), .int .i64 0]) w) := by
  have hc : calc2 9 x y = wrap64 (x * 2 ^ (y % 64).toNat) := by rw [← i64_wrap]; rfl
  rw [hc]
  clear hc
  have m64 := mod64 y
  have h0 : 0 ≤ y % 64 := by omega
  go_enter Try.func11, Try.ntmps11
  go_wp2_with fail
  refine (show Calls Try.prog 24 #[.int .i64 9] w (fun e w' => e = .returned (.tuple #[.string ⟨#[73, 73]⟩, .int .i64 1, .int .i64 0, .bool true]) ∧ w = w') from refShape 9).mono ?_
  rintro e w1 ⟨rfl, rfl⟩
  go_upto_region 24 with (fail)
  go_quiet (fail); go_wp2; go_ret2; exact ⟨rfl, below_drewN (Below.refl _ _) nq⟩
set_option maxRecDepth 100000 in
set_option maxHeartbeats 1600000 in
theorem rcalc10 {w : World} {bk o c : Nat} {x y : Int} (hl : bk < w.heap.size) (hx : w.cell? ⟨bk, o, none⟩ = some (.int .i64 x)) (hy : w.cell? ⟨bk, o + 1, none⟩ = some (.int .i64 y)) (hok : True) :
    Calls Try.prog 11 #[.int .i64 10, .slice (some ⟨bk, o, none⟩) 2 c] w (SameR (.tuple #[.int .i64 (calc2 10 x y), .int .i64 0]) w) := by
  have hc : calc2 10 x y = wrap64 (IntKind.u64.wrap x / 2 ^ (y % 64).toNat) := by rw [← i64_wrap]; rfl
  rw [hc]
  clear hc
  have m64 := mod64 y
  have h0 : 0 ≤ y % 64 := by omega
  go_enter Try.func11, Try.ntmps11
  go_wp2_with fail
  refine (show Calls Try.prog 24 #[.int .i64 10] w (fun e w' => e = .returned (.tuple #[.string ⟨#[73, 73]⟩, .int .i64 1, .int .i64 0, .bool true]) ∧ w = w') from refShape 10).mono ?_
  rintro e w1 ⟨rfl, rfl⟩
  go_upto_region 26 with (fail)
  go_quiet (fail); go_wp2; go_ret2; exact ⟨rfl, below_drewN (Below.refl _ _) nq⟩
set_option maxRecDepth 100000 in
set_option maxHeartbeats 1600000 in
theorem rcalc13 {w : World} {bk o c : Nat} {x y : Int} (hl : bk < w.heap.size) (hx : w.cell? ⟨bk, o, none⟩ = some (.int .i64 x)) (hy : w.cell? ⟨bk, o + 1, none⟩ = some (.int .i64 y)) :
    Calls Try.prog 11 #[.int .i64 13, .slice (some ⟨bk, o, none⟩) 2 c] w (SameR (.tuple #[.int .i64 (calc2 13 x y), .int .i64 0]) w) := by
  have hc : calc2 13 x y = flagI (x == y) := rfl
  rw [hc]
  clear hc
  go_enter Try.func11, Try.ntmps11
  go_wp2_with fail
  refine (show Calls Try.prog 24 #[.int .i64 13] w (fun e w' => e = .returned (.tuple #[.string ⟨#[73, 73]⟩, .int .i64 2, .int .i64 0, .bool true]) ∧ w = w') from refShape 13).mono ?_
  rintro e w1 ⟨rfl, rfl⟩
  have HW : Hid (Below w.heap.size w w) := Lib.hid (Below.refl _ _)
  go_upto_region 28 with (fail)


  refine wp_region_grow 10 (fun kz => match kz with | 7 => .const (.int .i64 (flagI (x == y))) | _ => .plain) (by kernel_rfl) (by kernel_rfl) ?_ (fun ν => ?_)
  · (intro k; (try dsimp only); split <;> first | exact True.intro | (intro u w1 w2 hu hb; exact hu.below hb))
  simp only [List.take_succ_cons, List.take_zero, List.drop_succ_cons, List.drop_zero]
  iterate 7 (refine Grow.val (v := ?_) rfl rfl (fun wg hbg hdg => ?_) ?_; rotate_left; (focus ((have hxg := (hbg.cell (p := ⟨bk, o, none⟩) hl).trans hx; have hyg := (hbg.cell (p := ⟨bk, o + 1, none⟩) hl).trans hy); clear hbg hdg; first | (go_simp; done) | (go_simp; with_reducible rfl))); simp only [Act.put, List.setIfInBounds_toArray, List.set_cons_zero, List.set_cons_succ])
  refine Grow.call (f := ?_) (args := ?_) rfl (fun wg => ?_) (fun wg hbg hdg => ?_) ?_
  rotate_left 2
  focus (first | (go_simp; done) | (go_simp; refine And.intro ?_ ?_ <;> with_reducible rfl) | (go_simp; with_reducible rfl))
  focus exact Calls.mono (bitC (x == y)) (fun e w2 ⟨he, hb2⟩ => ⟨_, he, rfl, hb2⟩)
  simp only [Act.put, Known.val, List.setIfInBounds_toArray, List.set_cons_zero, List.set_cons_succ]
  iterate 2 (refine Grow.val (v := ?_) rfl rfl (fun wg hbg hdg => ?_) ?_; rotate_left; (focus ((have hxg := (hbg.cell (p := ⟨bk, o, none⟩) hl).trans hx; have hyg := (hbg.cell (p := ⟨bk, o + 1, none⟩) hl).trans hy); clear hbg hdg; first | (go_simp; done) | (go_simp; with_reducible rfl))); simp only [Act.put, List.setIfInBounds_toArray, List.set_cons_zero, List.set_cons_succ])
  intro wg hb hf hap
  clear hap
  replace HW := Lib.hid (HW.out.trans (hb.mono HW.out.size))
  clear hb
  clear hf hx hy
  go_wp2
  go_ret2
  exact ⟨rfl, HW.out⟩
set_option maxRecDepth 100000 in
set_option maxHeartbeats 1600000 in
theorem rcalc14 {w : World} {bk o c : Nat} {x y : Int} (hl : bk < w.heap.size) (hx : w.cell? ⟨bk, o, none⟩ = some (.int .i64 x)) (hy : w.cell? ⟨bk, o + 1, none⟩ = some (.int .i64 y)) :
    Calls Try.prog 11 #[.int .i64 14, .slice (some ⟨bk, o, none⟩) 2 c] w (SameR (.tuple #[.int .i64 (calc2 14 x y), .int .i64 0]) w) := by
  have hc : calc2 14 x y = flagI (decide (x < y)) := rfl
  rw [hc]
  clear hc
  go_enter Try.func11, Try.ntmps11
  go_wp2_with fail
  refine (show Calls Try.prog 24 #[.int .i64 14] w (fun e w' => e = .returned (.tuple #[.string ⟨#[73, 73]⟩, .int .i64 2, .int .i64 0, .bool true]) ∧ w = w') from refShape 14).mono ?_
  rintro e w1 ⟨rfl, rfl⟩
  have HW : Hid (Below w.heap.size w w) := Lib.hid (Below.refl _ _)
  go_upto_region 30 with (fail)


  refine wp_region_grow 10 (fun kz => match kz with | 7 => .const (.int .i64 (flagI (decide (x < y)))) | _ => .plain) (by kernel_rfl) (by kernel_rfl) ?_ (fun ν => ?_)
  · (intro k; (try dsimp only); split <;> first | exact True.intro | (intro u w1 w2 hu hb; exact hu.below hb))
  simp only [List.take_succ_cons, List.take_zero, List.drop_succ_cons, List.drop_zero]
  iterate 7 (refine Grow.val (v := ?_) rfl rfl (fun wg hbg hdg => ?_) ?_; rotate_left; (focus ((have hxg := (hbg.cell (p := ⟨bk, o, none⟩) hl).trans hx; have hyg := (hbg.cell (p := ⟨bk, o + 1, none⟩) hl).trans hy); clear hbg hdg; first | (go_simp; done) | (go_simp; with_reducible rfl))); simp only [Act.put, List.setIfInBounds_toArray, List.set_cons_zero, List.set_cons_succ])
  refine Grow.call (f := ?_) (args := ?_) rfl (fun wg => ?_) (fun wg hbg hdg => ?_) ?_
  rotate_left 2
  focus (first | (go_simp; done) | (go_simp; refine And.intro ?_ ?_ <;> with_reducible rfl) | (go_simp; with_reducible rfl))
  focus exact Calls.mono (bitC (decide (x < y))) (fun e w2 ⟨he, hb2⟩ => ⟨_, he, rfl, hb2⟩)
  simp only [Act.put, Known.val, List.setIfInBounds_toArray, List.set_cons_zero, List.set_cons_succ]
  iterate 2 (refine Grow.val (v := ?_) rfl rfl (fun wg hbg hdg => ?_) ?_; rotate_left; (focus ((have hxg := (hbg.cell (p := ⟨bk, o, none⟩) hl).trans hx; have hyg := (hbg.cell (p := ⟨bk, o + 1, none⟩) hl).trans hy); clear hbg hdg; first | (go_simp; done) | (go_simp; with_reducible rfl))); simp only [Act.put, List.setIfInBounds_toArray, List.set_cons_zero, List.set_cons_succ])
  intro wg hb hf hap
  clear hap
  replace HW := Lib.hid (HW.out.trans (hb.mono HW.out.size))
  clear hb
  clear hf hx hy
  go_wp2
  go_ret2
  exact ⟨rfl, HW.out⟩
set_option maxRecDepth 100000 in
set_option maxHeartbeats 1600000 in
theorem rcalc15 {w : World} {bk o c : Nat} {x y : Int} (hl : bk < w.heap.size) (hx : w.cell? ⟨bk, o, none⟩ = some (.int .i64 x)) (hy : w.cell? ⟨bk, o + 1, none⟩ = some (.int .i64 y)) :
    Calls Try.prog 11 #[.int .i64 15, .slice (some ⟨bk, o, none⟩) 2 c] w (SameR (.tuple #[.int .i64 (calc2 15 x y), .int .i64 0]) w) := by
  have hc : calc2 15 x y = flagI (decide (IntKind.u64.wrap x < IntKind.u64.wrap y)) := rfl
  rw [hc]
  clear hc
  go_enter Try.func11, Try.ntmps11
  go_wp2_with fail
  refine (show Calls Try.prog 24 #[.int .i64 15] w (fun e w' => e = .returned (.tuple #[.string ⟨#[73, 73]⟩, .int .i64 2, .int .i64 0, .bool true]) ∧ w = w') from refShape 15).mono ?_
  rintro e w1 ⟨rfl, rfl⟩
  have HW : Hid (Below w.heap.size w w) := Lib.hid (Below.refl _ _)
  go_upto_region 32 with (fail)


  refine wp_region_grow 12 (fun kz => match kz with | 9 => .const (.int .i64 (flagI (decide (IntKind.u64.wrap x < IntKind.u64.wrap y)))) | _ => .plain) (by kernel_rfl) (by kernel_rfl) ?_ (fun ν => ?_)
  · (intro k; (try dsimp only); split <;> first | exact True.intro | (intro u w1 w2 hu hb; exact hu.below hb))
  simp only [List.take_succ_cons, List.take_zero, List.drop_succ_cons, List.drop_zero]
  iterate 9 (refine Grow.val (v := ?_) rfl rfl (fun wg hbg hdg => ?_) ?_; rotate_left; (focus ((have hxg := (hbg.cell (p := ⟨bk, o, none⟩) hl).trans hx; have hyg := (hbg.cell (p := ⟨bk, o + 1, none⟩) hl).trans hy); clear hbg hdg; first | (go_simp; done) | (go_simp; with_reducible rfl))); simp only [Act.put, List.setIfInBounds_toArray, List.set_cons_zero, List.set_cons_succ])
  refine Grow.call (f := ?_) (args := ?_) rfl (fun wg => ?_) (fun wg hbg hdg => ?_) ?_
  rotate_left 2
  focus (first | (go_simp; done) | (go_simp; refine And.intro ?_ ?_ <;> with_reducible rfl) | (go_simp; with_reducible rfl))
  focus exact Calls.mono (bitC (decide (IntKind.u64.wrap x < IntKind.u64.wrap y))) (fun e w2 ⟨he, hb2⟩ => ⟨_, he, rfl, hb2⟩)
  simp only [Act.put, Known.val, List.setIfInBounds_toArray, List.set_cons_zero, List.set_cons_succ]
  iterate 2 (refine Grow.val (v := ?_) rfl rfl (fun wg hbg hdg => ?_) ?_; rotate_left; (focus ((have hxg := (hbg.cell (p := ⟨bk, o, none⟩) hl).trans hx; have hyg := (hbg.cell (p := ⟨bk, o + 1, none⟩) hl).trans hy); clear hbg hdg; first | (go_simp; done) | (go_simp; with_reducible rfl))); simp only [Act.put, List.setIfInBounds_toArray, List.set_cons_zero, List.set_cons_succ])
  intro wg hb hf hap
  clear hap
  replace HW := Lib.hid (HW.out.trans (hb.mono HW.out.size))
  clear hb
  clear hf hx hy
  go_wp2
  go_ret2
  exact ⟨rfl, HW.out⟩
set_option maxRecDepth 100000 in
set_option maxHeartbeats 1600000 in
theorem rcalc11 {w : World} {bk o c : Nat} {x y : Int} (hl : bk < w.heap.size) (hx : w.cell? ⟨bk, o, none⟩ = some (.int .i64 x)) (hy : w.cell? ⟨bk, o + 1, none⟩ = some (.int .i64 y)) (h0 : ¬ y = 0) :
    Calls Try.prog 11 #[.int .i64 11, .slice (some ⟨bk, o, none⟩) 2 c] w (SameR (.tuple #[.int .i64 (calc2 11 x y), .int .i64 0]) w) := by
  have hc : calc2 11 x y = wrap64 (x.tdiv y) := by rw [← i64_wrap]; rfl
  rw [hc]
  clear hc
  have hq : (y == 0) = false := by simpa using h0
  go_enter Try.func11, Try.ntmps11
  go_wp2_with fail
  refine (show Calls Try.prog 24 #[.int .i64 11] w (fun e w' => e = .returned (.tuple #[.string ⟨#[73, 73]⟩, .int .i64 1, .int .i64 0, .bool true]) ∧ w = w') from refShape 11).mono ?_
  rintro e w1 ⟨rfl, rfl⟩
  go_upto_region 36 with (fail)
  go_quiet (fail)
  go_wp2
  go_ret2
  exact ⟨rfl, below_drewN (Below.refl _ _) nq⟩
set_option maxRecDepth 100000 in
set_option maxHeartbeats 1600000 in
theorem rcalc11z {w : World} {bk o c : Nat} (hl : bk < w.heap.size) (hy : w.cell? ⟨bk, o + 1, none⟩ = some (.int .i64 0)) :
    Calls Try.prog 11 #[.int .i64 11, .slice (some ⟨bk, o, none⟩) 2 c] w (SameR (.tuple #[.int .i64 0, .int .i64 9]) w) := by
  go_enter Try.func11, Try.ntmps11
  go_wp2_with fail
  refine (show Calls Try.prog 24 #[.int .i64 11] w (fun e w' => e = .returned (.tuple #[.string ⟨#[73, 73]⟩, .int .i64 1, .int .i64 0, .bool true]) ∧ w = w') from refShape 11).mono ?_
  rintro e w1 ⟨rfl, rfl⟩
  go_wp2
  go_ret2
  exact ⟨rfl, Below.refl _ _⟩
set_option maxRecDepth 100000 in
set_option maxHeartbeats 1600000 in
theorem rcalc12 {w : World} {bk o c : Nat} {x y : Int} (hl : bk < w.heap.size) (hx : w.cell? ⟨bk, o, none⟩ = some (.int .i64 x)) (hy : w.cell? ⟨bk, o + 1, none⟩ = some (.int .i64 y)) (h0 : ¬ y = 0) :
    Calls Try.prog 11 #[.int .i64 12, .slice (some ⟨bk, o, none⟩) 2 c] w (SameR (.tuple #[.int .i64 (calc2 12 x y), .int .i64 0]) w) := by
  have hc : calc2 12 x y = x.tmod y := rfl
  rw [hc]
  clear hc
  have hq : (y == 0) = false := by simpa using h0
  go_enter Try.func11, Try.ntmps11
  go_wp2_with fail
  refine (show Calls Try.prog 24 #[.int .i64 12] w (fun e w' => e = .returned (.tuple #[.string ⟨#[73, 73]⟩, .int .i64 1, .int .i64 0, .bool true]) ∧ w = w') from refShape 12).mono ?_
  rintro e w1 ⟨rfl, rfl⟩
  go_upto_region 37 with (fail)
  go_quiet (fail)
  go_wp2
  go_ret2
  exact ⟨rfl, below_drewN (Below.refl _ _) nq⟩
set_option maxRecDepth 100000 in
set_option maxHeartbeats 1600000 in
theorem rcalc12z {w : World} {bk o c : Nat} (hl : bk < w.heap.size) (hy : w.cell? ⟨bk, o + 1, none⟩ = some (.int .i64 0)) :
    Calls Try.prog 11 #[.int .i64 12, .slice (some ⟨bk, o, none⟩) 2 c] w (SameR (.tuple #[.int .i64 0, .int .i64 9]) w) := by
  go_enter Try.func11, Try.ntmps11
  go_wp2_with fail
  refine (show Calls Try.prog 24 #[.int .i64 12] w (fun e w' => e = .returned (.tuple #[.string ⟨#[73, 73]⟩, .int .i64 1, .int .i64 0, .bool true]) ∧ w = w') from refShape 12).mono ?_
  rintro e w1 ⟨rfl, rfl⟩
  go_wp2
  go_ret2
  exact ⟨rfl, Below.refl _ _⟩
end Go.Proofs.Ytjmikinbdclfbaa
