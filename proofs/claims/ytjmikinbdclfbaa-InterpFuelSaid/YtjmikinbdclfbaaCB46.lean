/- What the claim needs, part 46. -/
import Derived.Test.YtjmikinbdclfbaaCB40
import Derived.Test.YtjmikinbdclfbaaCB44
import Derived.Test.YtjmikinbdclfbaaCB45
import Derived.Test.YtjmikinbdclfbaaCB38
namespace Go.Proofs.Ytjmikinbdclfbaa
set_option linter.unusedSimpArgs false
set_option linter.unusedVariables false
open Go.RowKit
theorem fuel_law {f : FuncD} {i : InputD} {lo hi : Nat} (hl : lo ≤ hi) (hh : hi < 2000) {s t : TraceD} (hp : RunP f i lo s) (hq : RunP f i hi t) :
    (s.how ≠ 3 → s = t) ∧ (s.how = 3 → s.steps = lo ∧ (lo : Int) ≤ t.steps ∧ (∃ l, t.out = s.out ++ l) ∧ s.checks ≤ t.checks) := by
  rcases hp with ⟨rfl, hn⟩ | ⟨hc, hF, -, o, s1, hr, rfl⟩
  · rcases hq with ⟨rfl, -⟩ | ⟨hc, hF, -, -⟩
    · exact ⟨fun _ => rfl, fun h => absurd h (by decide)⟩
    · exact absurd ⟨hc, hF, by omega⟩ hn
  · rcases hq with ⟨-, hn⟩ | ⟨-, -, -, o2, s2, hr2, rfl⟩
    · exact absurd ⟨hc, hF, by omega⟩ hn
    · have e1 : (min (lo : Int) 200000).toNat = lo := by omega
      have e2 : (min (hi : Int) 200000).toNat = hi := by omega
      rw [e1] at hr
      rw [e2] at hr2
      obtain ⟨n, hr⟩ := hr
      rcases runs_more hl (s := startS f i) (Nat.zero_le _) hr with ⟨ho, hr3⟩ | ⟨ho, hst, hx⟩
      · obtain ⟨rfl, rfl⟩ := hr3.one hr2
        exact ⟨fun _ => rfl, fun h => absurd h ho⟩
      · have hx2 := hx o2 s2 hr2
        refine ⟨fun h => absurd (show (traceT o s1).how = 3 by rw [ho]; rfl) h, fun _ => ⟨?_, ?_, hx2.2.1, ?_⟩⟩
        · show ((s1.steps : Nat) : Int) = lo; rw [hst]
        · show (lo : Int) ≤ ((s2.steps : Nat) : Int); have := hx2.1; omega
        · show ((s1.checks : Nat) : Int) ≤ ((s2.checks : Nat) : Int); have := hx2.2.2; omega
def RanO (f : FuncD) (i : InputD) (lo : Int) (u : Value) (φ : Foot) (W : World) : Prop := ∃ t, RunP f i lo t ∧ TraceO W φ u t
theorem RanO.off {f : FuncD} {i : InputD} {lo : Int} {u : Value} {φ D : Foot} {W W' : World} (h : RanO f i lo u φ W) (ho : Off D W W') (hn : φ.off D) : RanO f i lo u φ W' := by
  obtain ⟨t, h1, h2⟩ := h
  exact ⟨t, h1, h2.off ho hn⟩
theorem TraceV.later {W W' : World} {v : Value} {t : TraceD} (h : TraceV W v t) (hb : Below W.heap.size W W') : TraceV W' v t := h.below hb
theorem TraceV.out {W : World} {a1 a2 a3 : Option Addr} {n1 n2 n3 c1 c2 c3 : Nat} {t : TraceD} {x1 x2 x3 x4 x5 : Value} (h : TraceV W (.agg #[x1, x2, x3, .slice a1 n1 c1, .slice a2 n2 c2, x4, x5, .slice a3 n3 c3]) t) : Ints W (.slice a1 n1 c1) t.out := by
  obtain ⟨a, b, c, e, h1, h2, h3⟩ := h
  injection e with e
  simp at e
  rw [e.2.2.2.1]; exact h1
theorem TraceO.forms {W : World} {S : Foot} {v : Value} {t : TraceD} (h : TraceO W S v t) : ∃ a1 a2 a3 c1 c2 c3, v = .agg #[.int .i64 t.how, .int .i64 t.value, .int .i64 t.trap, .slice a1 t.out.length c1, .slice a2 t.arrays.length c2, .int .i64 t.steps, .int .i64 t.checks, .slice a3 t.visits.length c3] := by
  obtain ⟨ov, av, vv, rfl, ho, ha, hv⟩ := h.val
  obtain ⟨b1, c1, rfl⟩ := ho.form
  obtain ⟨b3, c3, rfl⟩ := hv.form
  obtain ⟨_, b5, c5, _, _, rfl, -, -, -, -, -, -⟩ := ha.parts
  exact ⟨_, _, _, _, _, _, rfl⟩
set_option maxHeartbeats 12800000 in
set_option maxRecDepth 100000 in
theorem walkFuel {w : World} {v u : Value} (f : FuncD) (i : InputD) {a b : Int} (hv : FuncV w v f) (hi : InputV w u i) (ha : 0 ≤ a ∧ a ≤ 65535) (hb : 0 ≤ b ∧ b ≤ 65535) :
    Calls Try.prog 4 #[v, u, .int .u16 a, .int .u16 b] w fun e w' => e = .returned (.bool true) ∧ Below w.heap.size w w' := by
  have HV := Lib.hid hv
  have HI := Lib.hid hi
  obtain ⟨ap, cp, ab, cb, rfl, -, -, -, -⟩ := hv.form
  obtain ⟨ua, ub, rfl, hua, hub⟩ := hi
  obtain ⟨aa, ca, rfl⟩ := hua.form
  obtain ⟨_, b5, c5, _, _, rfl, -, -, -, -, -, -⟩ := hub.parts
  obtain ⟨an, rfl⟩ : ∃ an : Nat, a = (an : Int) := ⟨a.toNat, by omega⟩
  obtain ⟨bn, rfl⟩ : ∃ bn : Nat, b = (bn : Int) := ⟨b.toNat, by omega⟩
  obtain ⟨m, hm⟩ : ∃ m, m = an % 2000 := ⟨_, rfl⟩
  obtain ⟨n, hn⟩ : ∃ n, n = bn % 2000 := ⟨_, rfl⟩
  have rm : Int.tmod (an : Int) 2000 = (m : Int) := by rw [hm]; rfl
  have rn : Int.tmod (bn : Int) 2000 = (n : Int) := by rw [hn]; rfl
  have hm2 : m < 2000 := by omega
  have hn2 : n < 2000 := by omega
  clear hua hub hv hm hn
  go_enter Try.func4, Try.ntmps4
  go_upto_region 1 with (fail)
  have B4 : Hid (Box ((w.alloc (.cells #[.slice ap f.params.length cp, .int .i64 f.arrays, .int .i64 f.cells, .slice ab f.blocks.length cb] 31)).alloc (.cells #[.slice aa i.args.length ca, .slice b5 i.arrays.length c5] 34)) (w.heap.size) #[.slice ap f.params.length cp, .int .i64 f.arrays, .int .i64 f.cells, .slice ab f.blocks.length cb]) := Lib.hid (by simpa using ((Box.new w #[.slice ap f.params.length cp, .int .i64 f.arrays, .int .i64 f.cells, .slice ab f.blocks.length cb] 31).alloc _))
  have B5 : Hid (Box ((w.alloc (.cells #[.slice ap f.params.length cp, .int .i64 f.arrays, .int .i64 f.cells, .slice ab f.blocks.length cb] 31)).alloc (.cells #[.slice aa i.args.length ca, .slice b5 i.arrays.length c5] 34)) (w.heap.size + 1) #[.slice aa i.args.length ca, .slice b5 i.arrays.length c5]) := Lib.hid (by simpa using (Box.new (w.alloc (.cells #[.slice ap f.params.length cp, .int .i64 f.arrays, .int .i64 f.cells, .slice ab f.blocks.length cb] 31)) #[.slice aa i.args.length ca, .slice b5 i.arrays.length c5] 34))
  have HW : Hid (Below w.heap.size w ((w.alloc (.cells #[.slice ap f.params.length cp, .int .i64 f.arrays, .int .i64 f.cells, .slice ab f.blocks.length cb] 31)).alloc (.cells #[.slice aa i.args.length ca, .slice b5 i.arrays.length c5] 34))) := Lib.hid (((Below.refl _ _).alloc (Nat.le_refl _) _).alloc (by simp) _)
  generalize ((w.alloc (.cells #[.slice ap f.params.length cp, .int .i64 f.arrays, .int .i64 f.cells, .slice ab f.blocks.length cb] 31)).alloc (.cells #[.slice aa i.args.length ca, .slice b5 i.arrays.length c5] 34)) = wv at *
  obtain ⟨lB4, cB4, fB4⟩ := B4.out
  obtain ⟨lB5, cB5, fB5⟩ := B5.out
  by_cases hmn : n < m
  · have ht : decide ((n : Int) < (m : Int)) = true := by simpa using hmn
    go_upto_region 4 with (fail)
    clear ht rm rn
    refine Seven.wp_region_grow 10 (fun _ => none) (fun ν kz => match kz with | 3 => .holds (fun u φ w' => RanO f i n u φ w') | 7 => .holds (fun u φ w' => RanO f i m u φ w') | 8 => .holds (Seven.MadeS (fun b => .pointer (some ⟨b, 0, none⟩)) #[.int .i64 0, .int .i64 0, .int .i64 0, .slice none 0 0, .slice none 0 0, .int .i64 0, .int .i64 0, .slice none 0 0]) | 9 => .holds (Seven.MadeS (fun b => .pointer (some ⟨b, 0, none⟩)) #[.int .i64 0, .int .i64 0, .int .i64 0, .slice none 0 0, .slice none 0 0, .int .i64 0, .int .i64 0, .slice none 0 0]) | _ => .plain) (by kernel_rfl) (by kernel_rfl) ?_ ?_ ?_ (fun ν => ?_)
    · (intro ν k; (try dsimp only); split <;> first | exact True.intro | (intro u φ w1 w2 D hu ho hoff hDb hlt hn; first | exact Seven.MadeS.off hu ho hoff | (exact hu.off ho hoff)))
    · (intro ν ν' k h; first | rfl | ((try dsimp only); split <;> first | rfl))
    · (intro j k h; cases h)
    simp only [List.take_succ_cons, List.take_zero, List.drop_succ_cons, List.drop_zero]
    iterate 3 (refine Seven.Grow.val (v := ?_) rfl rfl (fun wg hbg hdg => ?_) ?_; rotate_left; (focus ((obtain ⟨lg0, cg0, fg0⟩ := B4.out.later hbg); (obtain ⟨lg1, cg1, fg1⟩ := B5.out.later hbg); clear hbg hdg; first | (go_simp; done) | (go_simp; with_reducible rfl))); simp only [Act.put, List.setIfInBounds_toArray, List.set_cons_zero, List.set_cons_succ])
    refine Seven.Grow.call (f := ?_) (args := ?_) rfl (by intro h; cases h) (fun wg => ?_) (fun wg hbg hdg => ?_) ?_
    rotate_left 2
    focus (first | (go_simp; done) | (go_simp; refine And.intro ?_ ?_ <;> with_reducible rfl) | (go_simp; with_reducible rfl))
    focus (exact (runO (HV.out.below (HW.out.trans (hbg.mono HW.out.size))) (HI.out.below (HW.out.trans (hbg.mono HW.out.size))) ⟨by omega, by omega⟩).mono (fun e w2 ⟨v, t, S, he, hp, ht, hs, hb⟩ => ⟨v, S, he, ⟨t, hp, ht⟩, hb, fun k hk => ⟨hs k hk, ht.lt k hk⟩⟩))
    simp only [Act.put, Seven.Known.val, List.setIfInBounds_toArray, List.set_cons_zero, List.set_cons_succ]
    iterate 3 (refine Seven.Grow.val (v := ?_) rfl rfl (fun wg hbg hdg => ?_) ?_; rotate_left; (focus ((obtain ⟨lg0, cg0, fg0⟩ := B4.out.later hbg); (obtain ⟨lg1, cg1, fg1⟩ := B5.out.later hbg); clear hbg hdg; first | (go_simp; done) | (go_simp; with_reducible rfl))); simp only [Act.put, List.setIfInBounds_toArray, List.set_cons_zero, List.set_cons_succ])
    refine Seven.Grow.call (f := ?_) (args := ?_) rfl (by intro h; cases h) (fun wg => ?_) (fun wg hbg hdg => ?_) ?_
    rotate_left 2
    focus (first | (go_simp; done) | (go_simp; refine And.intro ?_ ?_ <;> with_reducible rfl) | (go_simp; with_reducible rfl))
    focus (exact (runO (HV.out.below (HW.out.trans (hbg.mono HW.out.size))) (HI.out.below (HW.out.trans (hbg.mono HW.out.size))) ⟨by omega, by omega⟩).mono (fun e w2 ⟨v, t, S, he, hp, ht, hs, hb⟩ => ⟨v, S, he, ⟨t, hp, ht⟩, hb, fun k hk => ⟨hs k hk, ht.lt k hk⟩⟩))
    simp only [Act.put, Seven.Known.val, List.setIfInBounds_toArray, List.set_cons_zero, List.set_cons_succ]
    iterate 2 (refine Seven.Grow.made (T := ?_) rfl rfl (fun wg hbg hdg => ?_) ?_; rotate_left; (focus ((obtain ⟨lg0, cg0, fg0⟩ := B4.out.later hbg); (obtain ⟨lg1, cg1, fg1⟩ := B5.out.later hbg); clear hbg hdg; first | (go_simp; done) | (go_simp; with_reducible rfl))); simp only [Act.put, Seven.Known.val, List.setIfInBounds_toArray, List.set_cons_zero, List.set_cons_succ])
    intro wg hb hf
    obtain ⟨bBA, hνBA, hφBA, hXBA⟩ := hf.fact 8 ⟨by omega, rfl⟩
    have hBBA : wv.heap.size ≤ bBA := hf.base 8 bBA ⟨by omega, rfl⟩ ((hφBA bBA).2 rfl)
    have nBAB4 : bBA ≠ w.heap.size := fun e => by have := lB4; omega
    have nB4BA : w.heap.size ≠ bBA := fun e => nBAB4 e.symm
    have nBAB5 : bBA ≠ w.heap.size + 1 := fun e => by have := lB5; omega
    have nB5BA : w.heap.size + 1 ≠ bBA := fun e => nBAB5 e.symm
    obtain ⟨bBB, hνBB, hφBB, hXBB⟩ := hf.fact 9 ⟨by omega, rfl⟩
    have hBBB : wv.heap.size ≤ bBB := hf.base 9 bBB ⟨by omega, rfl⟩ ((hφBB bBB).2 rfl)
    have nBBB4 : bBB ≠ w.heap.size := fun e => by have := lB4; omega
    have nB4BB : w.heap.size ≠ bBB := fun e => nBBB4 e.symm
    have nBBB5 : bBB ≠ w.heap.size + 1 := fun e => by have := lB5; omega
    have nB5BB : w.heap.size + 1 ≠ bBB := fun e => nBBB5 e.symm
    have nBABB : bBA ≠ bBB := fun e => hf.apart 8 9 ⟨by omega, rfl⟩ ⟨by omega, rfl⟩ (by omega) bBA ((hφBA bBA).2 rfl) ((hφBB bBA).2 e)
    have nBBBA : bBB ≠ bBA := fun e => hf.apart 9 8 ⟨by omega, rfl⟩ ⟨by omega, rfl⟩ (by omega) bBB ((hφBB bBB).2 rfl) ((hφBA bBB).2 e)
    simp only [hνBA, hνBB]
    clear hνBA hνBB
    have gBA := Nat.le_trans HW.out.size hBBA
    clear hBBA
    have gBB := Nat.le_trans HW.out.size hBBB
    clear hBBB
    clear lB4 cB4 fB4 lB5 cB5 fB5
    replace B4 := Lib.hid (B4.out.later hb)
    replace B5 := Lib.hid (B5.out.later hb)
    replace HW := Lib.hid (HW.out.trans (hb.mono HW.out.size))
    clear hb
    have BA := Lib.hid hXBA
    clear hXBA
    have BB := Lib.hid hXBB
    clear hXBB
    obtain ⟨lB4, cB4, fB4⟩ := B4.out
    obtain ⟨lB5, cB5, fB5⟩ := B5.out
    obtain ⟨lBA, cBA, fBA⟩ := BA.out
    obtain ⟨lBB, cBB, fBB⟩ := BB.out
    simp only [Nat.zero_add, Nat.reduceAdd]
    have h3 : RanO f i n (ν 3).1 (ν 3).2 wg := hf.fact 3 ⟨by omega, rfl⟩
    have h7 : RanO f i m (ν 7).1 (ν 7).2 wg := hf.fact 7 ⟨by omega, rfl⟩
    have n3A : ¬ (ν 3).2 bBA := fun h => hf.apart 3 8 ⟨by omega, rfl⟩ ⟨by omega, rfl⟩ (by omega) bBA h ((hφBA _).2 rfl)
    have n3B : ¬ (ν 3).2 bBB := fun h => hf.apart 3 9 ⟨by omega, rfl⟩ ⟨by omega, rfl⟩ (by omega) bBB h ((hφBB _).2 rfl)
    have n7A : ¬ (ν 7).2 bBA := fun h => hf.apart 7 8 ⟨by omega, rfl⟩ ⟨by omega, rfl⟩ (by omega) bBA h ((hφBA _).2 rfl)
    have n7B : ¬ (ν 7).2 bBB := fun h => hf.apart 7 9 ⟨by omega, rfl⟩ ⟨by omega, rfl⟩ (by omega) bBB h ((hφBB _).2 rfl)
    obtain ⟨s, hp, hs⟩ := h3
    obtain ⟨t, hq, ht⟩ := h7
    obtain ⟨a1, a2, a3, c1, c2, c3, e3⟩ := hs.forms
    obtain ⟨d1, d2, d3, g1, g2, g3, e7⟩ := ht.forms
    obtain ⟨hA, hB⟩ := fuel_law (by omega) (by omega) hp hq
    have HA := Lib.hid hA
    have HB := Lib.hid hB
    rw [e3] at hs
    rw [e7] at ht
    have HS := Lib.hid hs
    have HT := Lib.hid ht
    have HOZ : Hid (OffF (fun k => k = bBA ∨ k = bBB) wg wg) := Lib.hid (Off.refl _ _)
    have HN3 : Hid (∀ k, (ν 3).2 k → ¬ (k = bBA ∨ k = bBB)) := Lib.hid (fun k hk h => by rcases h with rfl | rfl; exact n3A hk; exact n3B hk)
    have HN7 : Hid (∀ k, (ν 7).2 k → ¬ (k = bBA ∨ k = bBB)) := Lib.hid (fun k hk h => by rcases h with rfl | rfl; exact n7A hk; exact n7B hk)
    simp only [e3, e7]
    clear hf hA hB hp hq hs ht e3 e7 n3A n3B n7A n7B hφBA hφBB

    go_upto_region 5 with (fail)
    have B4_ : Box ((((((((((((((((wg.setCell ⟨bBA, 0, none⟩ (.int .i64 s.how)).setCell ⟨bBA, 1, none⟩ (.int .i64 s.value)).setCell ⟨bBA, 2, none⟩ (.int .i64 s.trap)).setCell ⟨bBA, 3, none⟩ (.slice a1 s.out.length c1)).setCell ⟨bBA, 4, none⟩ (.slice a2 s.arrays.length c2)).setCell ⟨bBA, 5, none⟩ (.int .i64 s.steps)).setCell ⟨bBA, 6, none⟩ (.int .i64 s.checks)).setCell ⟨bBA, 7, none⟩ (.slice a3 s.visits.length c3)).setCell ⟨bBB, 0, none⟩ (.int .i64 t.how)).setCell ⟨bBB, 1, none⟩ (.int .i64 t.value)).setCell ⟨bBB, 2, none⟩ (.int .i64 t.trap)).setCell ⟨bBB, 3, none⟩ (.slice d1 t.out.length g1)).setCell ⟨bBB, 4, none⟩ (.slice d2 t.arrays.length g2)).setCell ⟨bBB, 5, none⟩ (.int .i64 t.steps)).setCell ⟨bBB, 6, none⟩ (.int .i64 t.checks)).setCell ⟨bBB, 7, none⟩ (.slice d3 t.visits.length g3)) (w.heap.size) #[.slice ap f.params.length cp, .int .i64 f.arrays, .int .i64 f.cells, .slice ab f.blocks.length cb] := by simpa using ((((((((((((((((B4.out.other (p := ⟨bBA, 0, none⟩) (.int .i64 s.how) (by first | assumption | (simp; done) | omega | (dsimp only; omega))).other (p := ⟨bBA, 1, none⟩) (.int .i64 s.value) (by first | assumption | (simp; done) | omega | (dsimp only; omega))).other (p := ⟨bBA, 2, none⟩) (.int .i64 s.trap) (by first | assumption | (simp; done) | omega | (dsimp only; omega))).other (p := ⟨bBA, 3, none⟩) (.slice a1 s.out.length c1) (by first | assumption | (simp; done) | omega | (dsimp only; omega))).other (p := ⟨bBA, 4, none⟩) (.slice a2 s.arrays.length c2) (by first | assumption | (simp; done) | omega | (dsimp only; omega))).other (p := ⟨bBA, 5, none⟩) (.int .i64 s.steps) (by first | assumption | (simp; done) | omega | (dsimp only; omega))).other (p := ⟨bBA, 6, none⟩) (.int .i64 s.checks) (by first | assumption | (simp; done) | omega | (dsimp only; omega))).other (p := ⟨bBA, 7, none⟩) (.slice a3 s.visits.length c3) (by first | assumption | (simp; done) | omega | (dsimp only; omega))).other (p := ⟨bBB, 0, none⟩) (.int .i64 t.how) (by first | assumption | (simp; done) | omega | (dsimp only; omega))).other (p := ⟨bBB, 1, none⟩) (.int .i64 t.value) (by first | assumption | (simp; done) | omega | (dsimp only; omega))).other (p := ⟨bBB, 2, none⟩) (.int .i64 t.trap) (by first | assumption | (simp; done) | omega | (dsimp only; omega))).other (p := ⟨bBB, 3, none⟩) (.slice d1 t.out.length g1) (by first | assumption | (simp; done) | omega | (dsimp only; omega))).other (p := ⟨bBB, 4, none⟩) (.slice d2 t.arrays.length g2) (by first | assumption | (simp; done) | omega | (dsimp only; omega))).other (p := ⟨bBB, 5, none⟩) (.int .i64 t.steps) (by first | assumption | (simp; done) | omega | (dsimp only; omega))).other (p := ⟨bBB, 6, none⟩) (.int .i64 t.checks) (by first | assumption | (simp; done) | omega | (dsimp only; omega))).other (p := ⟨bBB, 7, none⟩) (.slice d3 t.visits.length g3) (by first | assumption | (simp; done) | omega | (dsimp only; omega)))
    have B5_ : Box ((((((((((((((((wg.setCell ⟨bBA, 0, none⟩ (.int .i64 s.how)).setCell ⟨bBA, 1, none⟩ (.int .i64 s.value)).setCell ⟨bBA, 2, none⟩ (.int .i64 s.trap)).setCell ⟨bBA, 3, none⟩ (.slice a1 s.out.length c1)).setCell ⟨bBA, 4, none⟩ (.slice a2 s.arrays.length c2)).setCell ⟨bBA, 5, none⟩ (.int .i64 s.steps)).setCell ⟨bBA, 6, none⟩ (.int .i64 s.checks)).setCell ⟨bBA, 7, none⟩ (.slice a3 s.visits.length c3)).setCell ⟨bBB, 0, none⟩ (.int .i64 t.how)).setCell ⟨bBB, 1, none⟩ (.int .i64 t.value)).setCell ⟨bBB, 2, none⟩ (.int .i64 t.trap)).setCell ⟨bBB, 3, none⟩ (.slice d1 t.out.length g1)).setCell ⟨bBB, 4, none⟩ (.slice d2 t.arrays.length g2)).setCell ⟨bBB, 5, none⟩ (.int .i64 t.steps)).setCell ⟨bBB, 6, none⟩ (.int .i64 t.checks)).setCell ⟨bBB, 7, none⟩ (.slice d3 t.visits.length g3)) (w.heap.size + 1) #[.slice aa i.args.length ca, .slice b5 i.arrays.length c5] := by simpa using ((((((((((((((((B5.out.other (p := ⟨bBA, 0, none⟩) (.int .i64 s.how) (by first | assumption | (simp; done) | omega | (dsimp only; omega))).other (p := ⟨bBA, 1, none⟩) (.int .i64 s.value) (by first | assumption | (simp; done) | omega | (dsimp only; omega))).other (p := ⟨bBA, 2, none⟩) (.int .i64 s.trap) (by first | assumption | (simp; done) | omega | (dsimp only; omega))).other (p := ⟨bBA, 3, none⟩) (.slice a1 s.out.length c1) (by first | assumption | (simp; done) | omega | (dsimp only; omega))).other (p := ⟨bBA, 4, none⟩) (.slice a2 s.arrays.length c2) (by first | assumption | (simp; done) | omega | (dsimp only; omega))).other (p := ⟨bBA, 5, none⟩) (.int .i64 s.steps) (by first | assumption | (simp; done) | omega | (dsimp only; omega))).other (p := ⟨bBA, 6, none⟩) (.int .i64 s.checks) (by first | assumption | (simp; done) | omega | (dsimp only; omega))).other (p := ⟨bBA, 7, none⟩) (.slice a3 s.visits.length c3) (by first | assumption | (simp; done) | omega | (dsimp only; omega))).other (p := ⟨bBB, 0, none⟩) (.int .i64 t.how) (by first | assumption | (simp; done) | omega | (dsimp only; omega))).other (p := ⟨bBB, 1, none⟩) (.int .i64 t.value) (by first | assumption | (simp; done) | omega | (dsimp only; omega))).other (p := ⟨bBB, 2, none⟩) (.int .i64 t.trap) (by first | assumption | (simp; done) | omega | (dsimp only; omega))).other (p := ⟨bBB, 3, none⟩) (.slice d1 t.out.length g1) (by first | assumption | (simp; done) | omega | (dsimp only; omega))).other (p := ⟨bBB, 4, none⟩) (.slice d2 t.arrays.length g2) (by first | assumption | (simp; done) | omega | (dsimp only; omega))).other (p := ⟨bBB, 5, none⟩) (.int .i64 t.steps) (by first | assumption | (simp; done) | omega | (dsimp only; omega))).other (p := ⟨bBB, 6, none⟩) (.int .i64 t.checks) (by first | assumption | (simp; done) | omega | (dsimp only; omega))).other (p := ⟨bBB, 7, none⟩) (.slice d3 t.visits.length g3) (by first | assumption | (simp; done) | omega | (dsimp only; omega)))
    have BA_ : Box ((((((((((((((((wg.setCell ⟨bBA, 0, none⟩ (.int .i64 s.how)).setCell ⟨bBA, 1, none⟩ (.int .i64 s.value)).setCell ⟨bBA, 2, none⟩ (.int .i64 s.trap)).setCell ⟨bBA, 3, none⟩ (.slice a1 s.out.length c1)).setCell ⟨bBA, 4, none⟩ (.slice a2 s.arrays.length c2)).setCell ⟨bBA, 5, none⟩ (.int .i64 s.steps)).setCell ⟨bBA, 6, none⟩ (.int .i64 s.checks)).setCell ⟨bBA, 7, none⟩ (.slice a3 s.visits.length c3)).setCell ⟨bBB, 0, none⟩ (.int .i64 t.how)).setCell ⟨bBB, 1, none⟩ (.int .i64 t.value)).setCell ⟨bBB, 2, none⟩ (.int .i64 t.trap)).setCell ⟨bBB, 3, none⟩ (.slice d1 t.out.length g1)).setCell ⟨bBB, 4, none⟩ (.slice d2 t.arrays.length g2)).setCell ⟨bBB, 5, none⟩ (.int .i64 t.steps)).setCell ⟨bBB, 6, none⟩ (.int .i64 t.checks)).setCell ⟨bBB, 7, none⟩ (.slice d3 t.visits.length g3)) (bBA) #[(.int .i64 s.how), (.int .i64 s.value), (.int .i64 s.trap), (.slice a1 s.out.length c1), (.slice a2 s.arrays.length c2), (.int .i64 s.steps), (.int .i64 s.checks), (.slice a3 s.visits.length c3)] := by simpa using ((((((((((((((((BA.out.set 0 (.int .i64 s.how)).set 1 (.int .i64 s.value)).set 2 (.int .i64 s.trap)).set 3 (.slice a1 s.out.length c1)).set 4 (.slice a2 s.arrays.length c2)).set 5 (.int .i64 s.steps)).set 6 (.int .i64 s.checks)).set 7 (.slice a3 s.visits.length c3)).other (p := ⟨bBB, 0, none⟩) (.int .i64 t.how) (by first | assumption | (simp; done) | omega | (dsimp only; omega))).other (p := ⟨bBB, 1, none⟩) (.int .i64 t.value) (by first | assumption | (simp; done) | omega | (dsimp only; omega))).other (p := ⟨bBB, 2, none⟩) (.int .i64 t.trap) (by first | assumption | (simp; done) | omega | (dsimp only; omega))).other (p := ⟨bBB, 3, none⟩) (.slice d1 t.out.length g1) (by first | assumption | (simp; done) | omega | (dsimp only; omega))).other (p := ⟨bBB, 4, none⟩) (.slice d2 t.arrays.length g2) (by first | assumption | (simp; done) | omega | (dsimp only; omega))).other (p := ⟨bBB, 5, none⟩) (.int .i64 t.steps) (by first | assumption | (simp; done) | omega | (dsimp only; omega))).other (p := ⟨bBB, 6, none⟩) (.int .i64 t.checks) (by first | assumption | (simp; done) | omega | (dsimp only; omega))).other (p := ⟨bBB, 7, none⟩) (.slice d3 t.visits.length g3) (by first | assumption | (simp; done) | omega | (dsimp only; omega)))
    have BB_ : Box ((((((((((((((((wg.setCell ⟨bBA, 0, none⟩ (.int .i64 s.how)).setCell ⟨bBA, 1, none⟩ (.int .i64 s.value)).setCell ⟨bBA, 2, none⟩ (.int .i64 s.trap)).setCell ⟨bBA, 3, none⟩ (.slice a1 s.out.length c1)).setCell ⟨bBA, 4, none⟩ (.slice a2 s.arrays.length c2)).setCell ⟨bBA, 5, none⟩ (.int .i64 s.steps)).setCell ⟨bBA, 6, none⟩ (.int .i64 s.checks)).setCell ⟨bBA, 7, none⟩ (.slice a3 s.visits.length c3)).setCell ⟨bBB, 0, none⟩ (.int .i64 t.how)).setCell ⟨bBB, 1, none⟩ (.int .i64 t.value)).setCell ⟨bBB, 2, none⟩ (.int .i64 t.trap)).setCell ⟨bBB, 3, none⟩ (.slice d1 t.out.length g1)).setCell ⟨bBB, 4, none⟩ (.slice d2 t.arrays.length g2)).setCell ⟨bBB, 5, none⟩ (.int .i64 t.steps)).setCell ⟨bBB, 6, none⟩ (.int .i64 t.checks)).setCell ⟨bBB, 7, none⟩ (.slice d3 t.visits.length g3)) (bBB) #[(.int .i64 t.how), (.int .i64 t.value), (.int .i64 t.trap), (.slice d1 t.out.length g1), (.slice d2 t.arrays.length g2), (.int .i64 t.steps), (.int .i64 t.checks), (.slice d3 t.visits.length g3)] := by simpa using ((((((((((((((((BB.out.other (p := ⟨bBA, 0, none⟩) (.int .i64 s.how) (by first | assumption | (simp; done) | omega | (dsimp only; omega))).other (p := ⟨bBA, 1, none⟩) (.int .i64 s.value) (by first | assumption | (simp; done) | omega | (dsimp only; omega))).other (p := ⟨bBA, 2, none⟩) (.int .i64 s.trap) (by first | assumption | (simp; done) | omega | (dsimp only; omega))).other (p := ⟨bBA, 3, none⟩) (.slice a1 s.out.length c1) (by first | assumption | (simp; done) | omega | (dsimp only; omega))).other (p := ⟨bBA, 4, none⟩) (.slice a2 s.arrays.length c2) (by first | assumption | (simp; done) | omega | (dsimp only; omega))).other (p := ⟨bBA, 5, none⟩) (.int .i64 s.steps) (by first | assumption | (simp; done) | omega | (dsimp only; omega))).other (p := ⟨bBA, 6, none⟩) (.int .i64 s.checks) (by first | assumption | (simp; done) | omega | (dsimp only; omega))).other (p := ⟨bBA, 7, none⟩) (.slice a3 s.visits.length c3) (by first | assumption | (simp; done) | omega | (dsimp only; omega))).set 0 (.int .i64 t.how)).set 1 (.int .i64 t.value)).set 2 (.int .i64 t.trap)).set 3 (.slice d1 t.out.length g1)).set 4 (.slice d2 t.arrays.length g2)).set 5 (.int .i64 t.steps)).set 6 (.int .i64 t.checks)).set 7 (.slice d3 t.visits.length g3))
    have HOZ_ := ((((((((((((((((HOZ.out.other (p := ⟨bBA, 0, none⟩) (.int .i64 s.how) (by simp)).other (p := ⟨bBA, 1, none⟩) (.int .i64 s.value) (by simp)).other (p := ⟨bBA, 2, none⟩) (.int .i64 s.trap) (by simp)).other (p := ⟨bBA, 3, none⟩) (.slice a1 s.out.length c1) (by simp)).other (p := ⟨bBA, 4, none⟩) (.slice a2 s.arrays.length c2) (by simp)).other (p := ⟨bBA, 5, none⟩) (.int .i64 s.steps) (by simp)).other (p := ⟨bBA, 6, none⟩) (.int .i64 s.checks) (by simp)).other (p := ⟨bBA, 7, none⟩) (.slice a3 s.visits.length c3) (by simp)).other (p := ⟨bBB, 0, none⟩) (.int .i64 t.how) (by simp)).other (p := ⟨bBB, 1, none⟩) (.int .i64 t.value) (by simp)).other (p := ⟨bBB, 2, none⟩) (.int .i64 t.trap) (by simp)).other (p := ⟨bBB, 3, none⟩) (.slice d1 t.out.length g1) (by simp)).other (p := ⟨bBB, 4, none⟩) (.slice d2 t.arrays.length g2) (by simp)).other (p := ⟨bBB, 5, none⟩) (.int .i64 t.steps) (by simp)).other (p := ⟨bBB, 6, none⟩) (.int .i64 t.checks) (by simp)).other (p := ⟨bBB, 7, none⟩) (.slice d3 t.visits.length g3) (by simp))
    have HW_ : Below w.heap.size w ((((((((((((((((wg.setCell ⟨bBA, 0, none⟩ (.int .i64 s.how)).setCell ⟨bBA, 1, none⟩ (.int .i64 s.value)).setCell ⟨bBA, 2, none⟩ (.int .i64 s.trap)).setCell ⟨bBA, 3, none⟩ (.slice a1 s.out.length c1)).setCell ⟨bBA, 4, none⟩ (.slice a2 s.arrays.length c2)).setCell ⟨bBA, 5, none⟩ (.int .i64 s.steps)).setCell ⟨bBA, 6, none⟩ (.int .i64 s.checks)).setCell ⟨bBA, 7, none⟩ (.slice a3 s.visits.length c3)).setCell ⟨bBB, 0, none⟩ (.int .i64 t.how)).setCell ⟨bBB, 1, none⟩ (.int .i64 t.value)).setCell ⟨bBB, 2, none⟩ (.int .i64 t.trap)).setCell ⟨bBB, 3, none⟩ (.slice d1 t.out.length g1)).setCell ⟨bBB, 4, none⟩ (.slice d2 t.arrays.length g2)).setCell ⟨bBB, 5, none⟩ (.int .i64 t.steps)).setCell ⟨bBB, 6, none⟩ (.int .i64 t.checks)).setCell ⟨bBB, 7, none⟩ (.slice d3 t.visits.length g3)) := ((((((((((((((((HW.out.setCell (p := ⟨bBA, 0, none⟩) (by first | assumption | omega | (dsimp only; omega) | (have := HW.out.size; omega) | (simp; done) | (simp; omega)) (.int .i64 s.how)).setCell (p := ⟨bBA, 1, none⟩) (by first | assumption | omega | (dsimp only; omega) | (have := HW.out.size; omega) | (simp; done) | (simp; omega)) (.int .i64 s.value)).setCell (p := ⟨bBA, 2, none⟩) (by first | assumption | omega | (dsimp only; omega) | (have := HW.out.size; omega) | (simp; done) | (simp; omega)) (.int .i64 s.trap)).setCell (p := ⟨bBA, 3, none⟩) (by first | assumption | omega | (dsimp only; omega) | (have := HW.out.size; omega) | (simp; done) | (simp; omega)) (.slice a1 s.out.length c1)).setCell (p := ⟨bBA, 4, none⟩) (by first | assumption | omega | (dsimp only; omega) | (have := HW.out.size; omega) | (simp; done) | (simp; omega)) (.slice a2 s.arrays.length c2)).setCell (p := ⟨bBA, 5, none⟩) (by first | assumption | omega | (dsimp only; omega) | (have := HW.out.size; omega) | (simp; done) | (simp; omega)) (.int .i64 s.steps)).setCell (p := ⟨bBA, 6, none⟩) (by first | assumption | omega | (dsimp only; omega) | (have := HW.out.size; omega) | (simp; done) | (simp; omega)) (.int .i64 s.checks)).setCell (p := ⟨bBA, 7, none⟩) (by first | assumption | omega | (dsimp only; omega) | (have := HW.out.size; omega) | (simp; done) | (simp; omega)) (.slice a3 s.visits.length c3)).setCell (p := ⟨bBB, 0, none⟩) (by first | assumption | omega | (dsimp only; omega) | (have := HW.out.size; omega) | (simp; done) | (simp; omega)) (.int .i64 t.how)).setCell (p := ⟨bBB, 1, none⟩) (by first | assumption | omega | (dsimp only; omega) | (have := HW.out.size; omega) | (simp; done) | (simp; omega)) (.int .i64 t.value)).setCell (p := ⟨bBB, 2, none⟩) (by first | assumption | omega | (dsimp only; omega) | (have := HW.out.size; omega) | (simp; done) | (simp; omega)) (.int .i64 t.trap)).setCell (p := ⟨bBB, 3, none⟩) (by first | assumption | omega | (dsimp only; omega) | (have := HW.out.size; omega) | (simp; done) | (simp; omega)) (.slice d1 t.out.length g1)).setCell (p := ⟨bBB, 4, none⟩) (by first | assumption | omega | (dsimp only; omega) | (have := HW.out.size; omega) | (simp; done) | (simp; omega)) (.slice d2 t.arrays.length g2)).setCell (p := ⟨bBB, 5, none⟩) (by first | assumption | omega | (dsimp only; omega) | (have := HW.out.size; omega) | (simp; done) | (simp; omega)) (.int .i64 t.steps)).setCell (p := ⟨bBB, 6, none⟩) (by first | assumption | omega | (dsimp only; omega) | (have := HW.out.size; omega) | (simp; done) | (simp; omega)) (.int .i64 t.checks)).setCell (p := ⟨bBB, 7, none⟩) (by first | assumption | omega | (dsimp only; omega) | (have := HW.out.size; omega) | (simp; done) | (simp; omega)) (.slice d3 t.visits.length g3))
    clear lB4 cB4 fB4 lB5 cB5 fB5 lBA cBA fBA lBB cBB fBB
    clear B4 B5 BA BB HOZ HW
    generalize ((((((((((((((((wg.setCell ⟨bBA, 0, none⟩ (.int .i64 s.how)).setCell ⟨bBA, 1, none⟩ (.int .i64 s.value)).setCell ⟨bBA, 2, none⟩ (.int .i64 s.trap)).setCell ⟨bBA, 3, none⟩ (.slice a1 s.out.length c1)).setCell ⟨bBA, 4, none⟩ (.slice a2 s.arrays.length c2)).setCell ⟨bBA, 5, none⟩ (.int .i64 s.steps)).setCell ⟨bBA, 6, none⟩ (.int .i64 s.checks)).setCell ⟨bBA, 7, none⟩ (.slice a3 s.visits.length c3)).setCell ⟨bBB, 0, none⟩ (.int .i64 t.how)).setCell ⟨bBB, 1, none⟩ (.int .i64 t.value)).setCell ⟨bBB, 2, none⟩ (.int .i64 t.trap)).setCell ⟨bBB, 3, none⟩ (.slice d1 t.out.length g1)).setCell ⟨bBB, 4, none⟩ (.slice d2 t.arrays.length g2)).setCell ⟨bBB, 5, none⟩ (.int .i64 t.steps)).setCell ⟨bBB, 6, none⟩ (.int .i64 t.checks)).setCell ⟨bBB, 7, none⟩ (.slice d3 t.visits.length g3)) = w5 at *
    have B4 := Lib.hid B4_
    clear B4_
    have B5 := Lib.hid B5_
    clear B5_
    have BA := Lib.hid BA_
    clear BA_
    have BB := Lib.hid BB_
    clear BB_
    have HOZ := Lib.hid HOZ_
    clear HOZ_
    have HW := Lib.hid HW_
    clear HW_
    obtain ⟨lB4, cB4, fB4⟩ := B4.out
    obtain ⟨lB5, cB5, fB5⟩ := B5.out
    obtain ⟨lBA, cBA, fBA⟩ := BA.out
    obtain ⟨lBB, cBB, fBB⟩ := BB.out
    have HS5 : Hid (TraceV w5 (.agg #[.int .i64 s.how, .int .i64 s.value, .int .i64 s.trap, .slice a1 s.out.length c1, .slice a2 s.arrays.length c2, .int .i64 s.steps, .int .i64 s.checks, .slice a3 s.visits.length c3]) s) := Lib.hid (HS.out.off HOZ.out HN3.out).val
    have HT5 : Hid (TraceV w5 (.agg #[.int .i64 t.how, .int .i64 t.value, .int .i64 t.trap, .slice d1 t.out.length g1, .slice d2 t.arrays.length g2, .int .i64 t.steps, .int .i64 t.checks, .slice d3 t.visits.length g3]) t) := Lib.hid (HT.out.off HOZ.out HN7.out).val
    clear HS HT HOZ HN3 HN7

    go_wp2_with fail
    refine awake6.mono ?_
    rintro e w7 ⟨rfl, hb⟩
    clear lB4 cB4 fB4 lB5 cB5 fB5 lBA cBA fBA lBB cBB fBB
    replace B4 := Lib.hid (B4.out.later hb)
    replace B5 := Lib.hid (B5.out.later hb)
    replace BA := Lib.hid (BA.out.later hb)
    replace BB := Lib.hid (BB.out.later hb)
    replace HS5 := Lib.hid (HS5.out.later hb)
    replace HT5 := Lib.hid (HT5.out.later hb)
    replace HW := Lib.hid (HW.out.trans (hb.mono HW.out.size))
    clear hb
    obtain ⟨lB4, cB4, fB4⟩ := B4.out
    obtain ⟨lB5, cB5, fB5⟩ := B5.out
    obtain ⟨lBA, cBA, fBA⟩ := BA.out
    obtain ⟨lBB, cBB, fBB⟩ := BB.out
    by_cases h3 : s.how = 3
    · have hq : (s.how != 3) = false := by simpa using h3
      obtain ⟨e1, e2, ⟨l, e3⟩, e4⟩ := HB.out h3
      have hl : s.out.length ≤ t.out.length := by rw [e3, List.length_append]; omega
      have HL := Lib.hid hl
      have HX : Hid (∀ (k : Nat) (y : Int), s.out[k]? = some y → t.out[k]? = some y) := Lib.hid (fun k y hk => by rw [e3, List.getElem?_append_left (List.getElem?_eq_some_iff.1 hk).1]; exact hk)
      have q1 : (s.steps != (n : Int)) = false := by simpa using e1
      have q2 : decide (t.steps < (n : Int)) = false := by simp; omega
      have q3 : decide ((t.out.length : Int) < (s.out.length : Int)) = false := by simp; omega
      have q4 : decide (t.checks < s.checks) = false := by simp; omega
      clear e1 e2 e3 e4 hl h3
      go_wp2_with fail
      clear hq q1 q2 q3 q4
      have HSO := Lib.hid HS5.out.out
      have HTO := Lib.hid HT5.out.out
      have h44 := HSO.out.le
      clear lB4 cB4 fB4 lB5 cB5 fB5 lBA cBA fBA lBB cBB fBB
      have HW7 := HW
      have BA7 := BA
      have BB7 := BB
      go_loopw [13] (fun iv wr => ∃ k : Nat, k ≤ s.out.length ∧ iv = .int .i64 k ∧ Below w7.heap.size w7 wr) (fun iv _ => s.out.length - (intOf iv).toNat)
      case atStart => exact ⟨0, Nat.zero_le _, rfl, Below.refl _ _⟩
      case round =>
        obtain ⟨k, hk, rfl, hlw⟩ := hrel
        clear HW BA BB B4 B5 HS5 HT5
        have HLW := Lib.hid hlw
        have HW : Hid (Below w.heap.size w wr) := Lib.hid (HW7.out.trans (hlw.mono HW7.out.size))
        have BA := Lib.hid (BA7.out.later hlw)
        have BB := Lib.hid (BB7.out.later hlw)
        clear hlw



        obtain ⟨lBA, cBA, fBA⟩ := BA.out
        obtain ⟨lBB, cBB, fBB⟩ := BB.out
        by_cases hlt : k < s.out.length
        · obtain ⟨y, hy⟩ : ∃ y, s.out[k]? = some y := ⟨_, List.getElem?_eq_getElem hlt⟩
          obtain ⟨sb, so, sc, he, hsl, hsx⟩ := ints_at HSO.out (by omega)
          injection he with x1 x2 x3
          subst x1
          subst x3
          obtain ⟨tb, to, tc, he, htl, htx⟩ := ints_at HTO.out (by have := HL.out; omega)
          injection he with x1 x2 x3
          subst x1
          subst x3
          have c1 := (HLW.out.cell (p := ⟨sb, so + k, none⟩) hsl).trans (hsx k hlt)
          have c2 := (HLW.out.cell (p := ⟨tb, to + k, none⟩) htl).trans (htx k (by have := HL.out; omega))
          rw [getD_some hy] at c1
          rw [getD_some (HX.out k y hy)] at c2
          have hlt2 : k < t.out.length := by have := HL.out; omega
          have hyy : (y != y) = false := by simp
          clear hsx htx hy
          go_upto_region 12 with (fail)
          go_quiet (fail)
          clear c1 c2
          clear lBA cBA fBA lBB cBB fBB
          go_wp2
          go_roundw
          case rel => exact ⟨k + 1, hlt, by go_num, below_drewN HLW.out nq⟩
          case measure => simp [intOf]; omega
        · obtain rfl : s.out.length = k := by omega
          go_wp2
          go_ret
          exact ⟨rfl, HW.out⟩
    · have hq : (s.how != 3) = true := by simpa using h3
      have hsm : sameT s t = true := by rw [HA.out h3]; exact sameT_self _
      go_wp2_with fail
      refine awake6.mono ?_
      rintro e w8 ⟨rfl, hb⟩
      clear lB4 cB4 fB4 lB5 cB5 fB5 lBA cBA fBA lBB cBB fBB
      replace B4 := Lib.hid (B4.out.later hb)
      replace B5 := Lib.hid (B5.out.later hb)
      replace BA := Lib.hid (BA.out.later hb)
      replace BB := Lib.hid (BB.out.later hb)
      replace HS5 := Lib.hid (HS5.out.later hb)
      replace HT5 := Lib.hid (HT5.out.later hb)
      replace HW := Lib.hid (HW.out.trans (hb.mono HW.out.size))
      clear hb
      obtain ⟨lB4, cB4, fB4⟩ := B4.out
      obtain ⟨lB5, cB5, fB5⟩ := B5.out
      obtain ⟨lBA, cBA, fBA⟩ := BA.out
      obtain ⟨lBB, cBB, fBB⟩ := BB.out
      go_wp2_with fail
      refine (refSame HS5.out HT5.out).mono ?_
      rintro e w9 ⟨rfl, hb⟩
      rw [hsm]
      clear lB4 cB4 fB4 lB5 cB5 fB5 lBA cBA fBA lBB cBB fBB
      replace B4 := Lib.hid (B4.out.later hb)
      replace B5 := Lib.hid (B5.out.later hb)
      replace BA := Lib.hid (BA.out.later hb)
      replace BB := Lib.hid (BB.out.later hb)
      replace HS5 := Lib.hid (HS5.out.later hb)
      replace HT5 := Lib.hid (HT5.out.later hb)
      replace HW := Lib.hid (HW.out.trans (hb.mono HW.out.size))
      clear hb
      obtain ⟨lB4, cB4, fB4⟩ := B4.out
      obtain ⟨lB5, cB5, fB5⟩ := B5.out
      obtain ⟨lBA, cBA, fBA⟩ := BA.out
      obtain ⟨lBB, cBB, fBB⟩ := BB.out
      go_wp2
      go_ret
      exact ⟨rfl, HW.out⟩
  · have ht : decide ((n : Int) < (m : Int)) = false := by simpa using hmn
    go_upto_region 4 with (fail)
    clear ht rm rn
    refine Seven.wp_region_grow 10 (fun _ => none) (fun ν kz => match kz with | 3 => .holds (fun u φ w' => RanO f i m u φ w') | 7 => .holds (fun u φ w' => RanO f i n u φ w') | 8 => .holds (Seven.MadeS (fun b => .pointer (some ⟨b, 0, none⟩)) #[.int .i64 0, .int .i64 0, .int .i64 0, .slice none 0 0, .slice none 0 0, .int .i64 0, .int .i64 0, .slice none 0 0]) | 9 => .holds (Seven.MadeS (fun b => .pointer (some ⟨b, 0, none⟩)) #[.int .i64 0, .int .i64 0, .int .i64 0, .slice none 0 0, .slice none 0 0, .int .i64 0, .int .i64 0, .slice none 0 0]) | _ => .plain) (by kernel_rfl) (by kernel_rfl) ?_ ?_ ?_ (fun ν => ?_)
    · (intro ν k; (try dsimp only); split <;> first | exact True.intro | (intro u φ w1 w2 D hu ho hoff hDb hlt hn; first | exact Seven.MadeS.off hu ho hoff | (exact hu.off ho hoff)))
    · (intro ν ν' k h; first | rfl | ((try dsimp only); split <;> first | rfl))
    · (intro j k h; cases h)
    simp only [List.take_succ_cons, List.take_zero, List.drop_succ_cons, List.drop_zero]
    iterate 3 (refine Seven.Grow.val (v := ?_) rfl rfl (fun wg hbg hdg => ?_) ?_; rotate_left; (focus ((obtain ⟨lg0, cg0, fg0⟩ := B4.out.later hbg); (obtain ⟨lg1, cg1, fg1⟩ := B5.out.later hbg); clear hbg hdg; first | (go_simp; done) | (go_simp; with_reducible rfl))); simp only [Act.put, List.setIfInBounds_toArray, List.set_cons_zero, List.set_cons_succ])
    refine Seven.Grow.call (f := ?_) (args := ?_) rfl (by intro h; cases h) (fun wg => ?_) (fun wg hbg hdg => ?_) ?_
    rotate_left 2
    focus (first | (go_simp; done) | (go_simp; refine And.intro ?_ ?_ <;> with_reducible rfl) | (go_simp; with_reducible rfl))
    focus (exact (runO (HV.out.below (HW.out.trans (hbg.mono HW.out.size))) (HI.out.below (HW.out.trans (hbg.mono HW.out.size))) ⟨by omega, by omega⟩).mono (fun e w2 ⟨v, t, S, he, hp, ht, hs, hb⟩ => ⟨v, S, he, ⟨t, hp, ht⟩, hb, fun k hk => ⟨hs k hk, ht.lt k hk⟩⟩))
    simp only [Act.put, Seven.Known.val, List.setIfInBounds_toArray, List.set_cons_zero, List.set_cons_succ]
    iterate 3 (refine Seven.Grow.val (v := ?_) rfl rfl (fun wg hbg hdg => ?_) ?_; rotate_left; (focus ((obtain ⟨lg0, cg0, fg0⟩ := B4.out.later hbg); (obtain ⟨lg1, cg1, fg1⟩ := B5.out.later hbg); clear hbg hdg; first | (go_simp; done) | (go_simp; with_reducible rfl))); simp only [Act.put, List.setIfInBounds_toArray, List.set_cons_zero, List.set_cons_succ])
    refine Seven.Grow.call (f := ?_) (args := ?_) rfl (by intro h; cases h) (fun wg => ?_) (fun wg hbg hdg => ?_) ?_
    rotate_left 2
    focus (first | (go_simp; done) | (go_simp; refine And.intro ?_ ?_ <;> with_reducible rfl) | (go_simp; with_reducible rfl))
    focus (exact (runO (HV.out.below (HW.out.trans (hbg.mono HW.out.size))) (HI.out.below (HW.out.trans (hbg.mono HW.out.size))) ⟨by omega, by omega⟩).mono (fun e w2 ⟨v, t, S, he, hp, ht, hs, hb⟩ => ⟨v, S, he, ⟨t, hp, ht⟩, hb, fun k hk => ⟨hs k hk, ht.lt k hk⟩⟩))
    simp only [Act.put, Seven.Known.val, List.setIfInBounds_toArray, List.set_cons_zero, List.set_cons_succ]
    iterate 2 (refine Seven.Grow.made (T := ?_) rfl rfl (fun wg hbg hdg => ?_) ?_; rotate_left; (focus ((obtain ⟨lg0, cg0, fg0⟩ := B4.out.later hbg); (obtain ⟨lg1, cg1, fg1⟩ := B5.out.later hbg); clear hbg hdg; first | (go_simp; done) | (go_simp; with_reducible rfl))); simp only [Act.put, Seven.Known.val, List.setIfInBounds_toArray, List.set_cons_zero, List.set_cons_succ])
    intro wg hb hf
    obtain ⟨bBA, hνBA, hφBA, hXBA⟩ := hf.fact 8 ⟨by omega, rfl⟩
    have hBBA : wv.heap.size ≤ bBA := hf.base 8 bBA ⟨by omega, rfl⟩ ((hφBA bBA).2 rfl)
    have nBAB4 : bBA ≠ w.heap.size := fun e => by have := lB4; omega
    have nB4BA : w.heap.size ≠ bBA := fun e => nBAB4 e.symm
    have nBAB5 : bBA ≠ w.heap.size + 1 := fun e => by have := lB5; omega
    have nB5BA : w.heap.size + 1 ≠ bBA := fun e => nBAB5 e.symm
    obtain ⟨bBB, hνBB, hφBB, hXBB⟩ := hf.fact 9 ⟨by omega, rfl⟩
    have hBBB : wv.heap.size ≤ bBB := hf.base 9 bBB ⟨by omega, rfl⟩ ((hφBB bBB).2 rfl)
    have nBBB4 : bBB ≠ w.heap.size := fun e => by have := lB4; omega
    have nB4BB : w.heap.size ≠ bBB := fun e => nBBB4 e.symm
    have nBBB5 : bBB ≠ w.heap.size + 1 := fun e => by have := lB5; omega
    have nB5BB : w.heap.size + 1 ≠ bBB := fun e => nBBB5 e.symm
    have nBABB : bBA ≠ bBB := fun e => hf.apart 8 9 ⟨by omega, rfl⟩ ⟨by omega, rfl⟩ (by omega) bBA ((hφBA bBA).2 rfl) ((hφBB bBA).2 e)
    have nBBBA : bBB ≠ bBA := fun e => hf.apart 9 8 ⟨by omega, rfl⟩ ⟨by omega, rfl⟩ (by omega) bBB ((hφBB bBB).2 rfl) ((hφBA bBB).2 e)
    simp only [hνBA, hνBB]
    clear hνBA hνBB
    have gBA := Nat.le_trans HW.out.size hBBA
    clear hBBA
    have gBB := Nat.le_trans HW.out.size hBBB
    clear hBBB
    clear lB4 cB4 fB4 lB5 cB5 fB5
    replace B4 := Lib.hid (B4.out.later hb)
    replace B5 := Lib.hid (B5.out.later hb)
    replace HW := Lib.hid (HW.out.trans (hb.mono HW.out.size))
    clear hb
    have BA := Lib.hid hXBA
    clear hXBA
    have BB := Lib.hid hXBB
    clear hXBB
    obtain ⟨lB4, cB4, fB4⟩ := B4.out
    obtain ⟨lB5, cB5, fB5⟩ := B5.out
    obtain ⟨lBA, cBA, fBA⟩ := BA.out
    obtain ⟨lBB, cBB, fBB⟩ := BB.out
    simp only [Nat.zero_add, Nat.reduceAdd]
    have h3 : RanO f i m (ν 3).1 (ν 3).2 wg := hf.fact 3 ⟨by omega, rfl⟩
    have h7 : RanO f i n (ν 7).1 (ν 7).2 wg := hf.fact 7 ⟨by omega, rfl⟩
    have n3A : ¬ (ν 3).2 bBA := fun h => hf.apart 3 8 ⟨by omega, rfl⟩ ⟨by omega, rfl⟩ (by omega) bBA h ((hφBA _).2 rfl)
    have n3B : ¬ (ν 3).2 bBB := fun h => hf.apart 3 9 ⟨by omega, rfl⟩ ⟨by omega, rfl⟩ (by omega) bBB h ((hφBB _).2 rfl)
    have n7A : ¬ (ν 7).2 bBA := fun h => hf.apart 7 8 ⟨by omega, rfl⟩ ⟨by omega, rfl⟩ (by omega) bBA h ((hφBA _).2 rfl)
    have n7B : ¬ (ν 7).2 bBB := fun h => hf.apart 7 9 ⟨by omega, rfl⟩ ⟨by omega, rfl⟩ (by omega) bBB h ((hφBB _).2 rfl)
    obtain ⟨s, hp, hs⟩ := h3
    obtain ⟨t, hq, ht⟩ := h7
    obtain ⟨a1, a2, a3, c1, c2, c3, e3⟩ := hs.forms
    obtain ⟨d1, d2, d3, g1, g2, g3, e7⟩ := ht.forms
    obtain ⟨hA, hB⟩ := fuel_law (by omega) (by omega) hp hq
    have HA := Lib.hid hA
    have HB := Lib.hid hB
    rw [e3] at hs
    rw [e7] at ht
    have HS := Lib.hid hs
    have HT := Lib.hid ht
    have HOZ : Hid (OffF (fun k => k = bBA ∨ k = bBB) wg wg) := Lib.hid (Off.refl _ _)
    have HN3 : Hid (∀ k, (ν 3).2 k → ¬ (k = bBA ∨ k = bBB)) := Lib.hid (fun k hk h => by rcases h with rfl | rfl; exact n3A hk; exact n3B hk)
    have HN7 : Hid (∀ k, (ν 7).2 k → ¬ (k = bBA ∨ k = bBB)) := Lib.hid (fun k hk h => by rcases h with rfl | rfl; exact n7A hk; exact n7B hk)
    simp only [e3, e7]
    clear hf hA hB hp hq hs ht e3 e7 n3A n3B n7A n7B hφBA hφBB

    go_upto_region 5 with (fail)
    have B4_ : Box ((((((((((((((((wg.setCell ⟨bBA, 0, none⟩ (.int .i64 s.how)).setCell ⟨bBA, 1, none⟩ (.int .i64 s.value)).setCell ⟨bBA, 2, none⟩ (.int .i64 s.trap)).setCell ⟨bBA, 3, none⟩ (.slice a1 s.out.length c1)).setCell ⟨bBA, 4, none⟩ (.slice a2 s.arrays.length c2)).setCell ⟨bBA, 5, none⟩ (.int .i64 s.steps)).setCell ⟨bBA, 6, none⟩ (.int .i64 s.checks)).setCell ⟨bBA, 7, none⟩ (.slice a3 s.visits.length c3)).setCell ⟨bBB, 0, none⟩ (.int .i64 t.how)).setCell ⟨bBB, 1, none⟩ (.int .i64 t.value)).setCell ⟨bBB, 2, none⟩ (.int .i64 t.trap)).setCell ⟨bBB, 3, none⟩ (.slice d1 t.out.length g1)).setCell ⟨bBB, 4, none⟩ (.slice d2 t.arrays.length g2)).setCell ⟨bBB, 5, none⟩ (.int .i64 t.steps)).setCell ⟨bBB, 6, none⟩ (.int .i64 t.checks)).setCell ⟨bBB, 7, none⟩ (.slice d3 t.visits.length g3)) (w.heap.size) #[.slice ap f.params.length cp, .int .i64 f.arrays, .int .i64 f.cells, .slice ab f.blocks.length cb] := by simpa using ((((((((((((((((B4.out.other (p := ⟨bBA, 0, none⟩) (.int .i64 s.how) (by first | assumption | (simp; done) | omega | (dsimp only; omega))).other (p := ⟨bBA, 1, none⟩) (.int .i64 s.value) (by first | assumption | (simp; done) | omega | (dsimp only; omega))).other (p := ⟨bBA, 2, none⟩) (.int .i64 s.trap) (by first | assumption | (simp; done) | omega | (dsimp only; omega))).other (p := ⟨bBA, 3, none⟩) (.slice a1 s.out.length c1) (by first | assumption | (simp; done) | omega | (dsimp only; omega))).other (p := ⟨bBA, 4, none⟩) (.slice a2 s.arrays.length c2) (by first | assumption | (simp; done) | omega | (dsimp only; omega))).other (p := ⟨bBA, 5, none⟩) (.int .i64 s.steps) (by first | assumption | (simp; done) | omega | (dsimp only; omega))).other (p := ⟨bBA, 6, none⟩) (.int .i64 s.checks) (by first | assumption | (simp; done) | omega | (dsimp only; omega))).other (p := ⟨bBA, 7, none⟩) (.slice a3 s.visits.length c3) (by first | assumption | (simp; done) | omega | (dsimp only; omega))).other (p := ⟨bBB, 0, none⟩) (.int .i64 t.how) (by first | assumption | (simp; done) | omega | (dsimp only; omega))).other (p := ⟨bBB, 1, none⟩) (.int .i64 t.value) (by first | assumption | (simp; done) | omega | (dsimp only; omega))).other (p := ⟨bBB, 2, none⟩) (.int .i64 t.trap) (by first | assumption | (simp; done) | omega | (dsimp only; omega))).other (p := ⟨bBB, 3, none⟩) (.slice d1 t.out.length g1) (by first | assumption | (simp; done) | omega | (dsimp only; omega))).other (p := ⟨bBB, 4, none⟩) (.slice d2 t.arrays.length g2) (by first | assumption | (simp; done) | omega | (dsimp only; omega))).other (p := ⟨bBB, 5, none⟩) (.int .i64 t.steps) (by first | assumption | (simp; done) | omega | (dsimp only; omega))).other (p := ⟨bBB, 6, none⟩) (.int .i64 t.checks) (by first | assumption | (simp; done) | omega | (dsimp only; omega))).other (p := ⟨bBB, 7, none⟩) (.slice d3 t.visits.length g3) (by first | assumption | (simp; done) | omega | (dsimp only; omega)))
    have B5_ : Box ((((((((((((((((wg.setCell ⟨bBA, 0, none⟩ (.int .i64 s.how)).setCell ⟨bBA, 1, none⟩ (.int .i64 s.value)).setCell ⟨bBA, 2, none⟩ (.int .i64 s.trap)).setCell ⟨bBA, 3, none⟩ (.slice a1 s.out.length c1)).setCell ⟨bBA, 4, none⟩ (.slice a2 s.arrays.length c2)).setCell ⟨bBA, 5, none⟩ (.int .i64 s.steps)).setCell ⟨bBA, 6, none⟩ (.int .i64 s.checks)).setCell ⟨bBA, 7, none⟩ (.slice a3 s.visits.length c3)).setCell ⟨bBB, 0, none⟩ (.int .i64 t.how)).setCell ⟨bBB, 1, none⟩ (.int .i64 t.value)).setCell ⟨bBB, 2, none⟩ (.int .i64 t.trap)).setCell ⟨bBB, 3, none⟩ (.slice d1 t.out.length g1)).setCell ⟨bBB, 4, none⟩ (.slice d2 t.arrays.length g2)).setCell ⟨bBB, 5, none⟩ (.int .i64 t.steps)).setCell ⟨bBB, 6, none⟩ (.int .i64 t.checks)).setCell ⟨bBB, 7, none⟩ (.slice d3 t.visits.length g3)) (w.heap.size + 1) #[.slice aa i.args.length ca, .slice b5 i.arrays.length c5] := by simpa using ((((((((((((((((B5.out.other (p := ⟨bBA, 0, none⟩) (.int .i64 s.how) (by first | assumption | (simp; done) | omega | (dsimp only; omega))).other (p := ⟨bBA, 1, none⟩) (.int .i64 s.value) (by first | assumption | (simp; done) | omega | (dsimp only; omega))).other (p := ⟨bBA, 2, none⟩) (.int .i64 s.trap) (by first | assumption | (simp; done) | omega | (dsimp only; omega))).other (p := ⟨bBA, 3, none⟩) (.slice a1 s.out.length c1) (by first | assumption | (simp; done) | omega | (dsimp only; omega))).other (p := ⟨bBA, 4, none⟩) (.slice a2 s.arrays.length c2) (by first | assumption | (simp; done) | omega | (dsimp only; omega))).other (p := ⟨bBA, 5, none⟩) (.int .i64 s.steps) (by first | assumption | (simp; done) | omega | (dsimp only; omega))).other (p := ⟨bBA, 6, none⟩) (.int .i64 s.checks) (by first | assumption | (simp; done) | omega | (dsimp only; omega))).other (p := ⟨bBA, 7, none⟩) (.slice a3 s.visits.length c3) (by first | assumption | (simp; done) | omega | (dsimp only; omega))).other (p := ⟨bBB, 0, none⟩) (.int .i64 t.how) (by first | assumption | (simp; done) | omega | (dsimp only; omega))).other (p := ⟨bBB, 1, none⟩) (.int .i64 t.value) (by first | assumption | (simp; done) | omega | (dsimp only; omega))).other (p := ⟨bBB, 2, none⟩) (.int .i64 t.trap) (by first | assumption | (simp; done) | omega | (dsimp only; omega))).other (p := ⟨bBB, 3, none⟩) (.slice d1 t.out.length g1) (by first | assumption | (simp; done) | omega | (dsimp only; omega))).other (p := ⟨bBB, 4, none⟩) (.slice d2 t.arrays.length g2) (by first | assumption | (simp; done) | omega | (dsimp only; omega))).other (p := ⟨bBB, 5, none⟩) (.int .i64 t.steps) (by first | assumption | (simp; done) | omega | (dsimp only; omega))).other (p := ⟨bBB, 6, none⟩) (.int .i64 t.checks) (by first | assumption | (simp; done) | omega | (dsimp only; omega))).other (p := ⟨bBB, 7, none⟩) (.slice d3 t.visits.length g3) (by first | assumption | (simp; done) | omega | (dsimp only; omega)))
    have BA_ : Box ((((((((((((((((wg.setCell ⟨bBA, 0, none⟩ (.int .i64 s.how)).setCell ⟨bBA, 1, none⟩ (.int .i64 s.value)).setCell ⟨bBA, 2, none⟩ (.int .i64 s.trap)).setCell ⟨bBA, 3, none⟩ (.slice a1 s.out.length c1)).setCell ⟨bBA, 4, none⟩ (.slice a2 s.arrays.length c2)).setCell ⟨bBA, 5, none⟩ (.int .i64 s.steps)).setCell ⟨bBA, 6, none⟩ (.int .i64 s.checks)).setCell ⟨bBA, 7, none⟩ (.slice a3 s.visits.length c3)).setCell ⟨bBB, 0, none⟩ (.int .i64 t.how)).setCell ⟨bBB, 1, none⟩ (.int .i64 t.value)).setCell ⟨bBB, 2, none⟩ (.int .i64 t.trap)).setCell ⟨bBB, 3, none⟩ (.slice d1 t.out.length g1)).setCell ⟨bBB, 4, none⟩ (.slice d2 t.arrays.length g2)).setCell ⟨bBB, 5, none⟩ (.int .i64 t.steps)).setCell ⟨bBB, 6, none⟩ (.int .i64 t.checks)).setCell ⟨bBB, 7, none⟩ (.slice d3 t.visits.length g3)) (bBA) #[(.int .i64 s.how), (.int .i64 s.value), (.int .i64 s.trap), (.slice a1 s.out.length c1), (.slice a2 s.arrays.length c2), (.int .i64 s.steps), (.int .i64 s.checks), (.slice a3 s.visits.length c3)] := by simpa using ((((((((((((((((BA.out.set 0 (.int .i64 s.how)).set 1 (.int .i64 s.value)).set 2 (.int .i64 s.trap)).set 3 (.slice a1 s.out.length c1)).set 4 (.slice a2 s.arrays.length c2)).set 5 (.int .i64 s.steps)).set 6 (.int .i64 s.checks)).set 7 (.slice a3 s.visits.length c3)).other (p := ⟨bBB, 0, none⟩) (.int .i64 t.how) (by first | assumption | (simp; done) | omega | (dsimp only; omega))).other (p := ⟨bBB, 1, none⟩) (.int .i64 t.value) (by first | assumption | (simp; done) | omega | (dsimp only; omega))).other (p := ⟨bBB, 2, none⟩) (.int .i64 t.trap) (by first | assumption | (simp; done) | omega | (dsimp only; omega))).other (p := ⟨bBB, 3, none⟩) (.slice d1 t.out.length g1) (by first | assumption | (simp; done) | omega | (dsimp only; omega))).other (p := ⟨bBB, 4, none⟩) (.slice d2 t.arrays.length g2) (by first | assumption | (simp; done) | omega | (dsimp only; omega))).other (p := ⟨bBB, 5, none⟩) (.int .i64 t.steps) (by first | assumption | (simp; done) | omega | (dsimp only; omega))).other (p := ⟨bBB, 6, none⟩) (.int .i64 t.checks) (by first | assumption | (simp; done) | omega | (dsimp only; omega))).other (p := ⟨bBB, 7, none⟩) (.slice d3 t.visits.length g3) (by first | assumption | (simp; done) | omega | (dsimp only; omega)))
    have BB_ : Box ((((((((((((((((wg.setCell ⟨bBA, 0, none⟩ (.int .i64 s.how)).setCell ⟨bBA, 1, none⟩ (.int .i64 s.value)).setCell ⟨bBA, 2, none⟩ (.int .i64 s.trap)).setCell ⟨bBA, 3, none⟩ (.slice a1 s.out.length c1)).setCell ⟨bBA, 4, none⟩ (.slice a2 s.arrays.length c2)).setCell ⟨bBA, 5, none⟩ (.int .i64 s.steps)).setCell ⟨bBA, 6, none⟩ (.int .i64 s.checks)).setCell ⟨bBA, 7, none⟩ (.slice a3 s.visits.length c3)).setCell ⟨bBB, 0, none⟩ (.int .i64 t.how)).setCell ⟨bBB, 1, none⟩ (.int .i64 t.value)).setCell ⟨bBB, 2, none⟩ (.int .i64 t.trap)).setCell ⟨bBB, 3, none⟩ (.slice d1 t.out.length g1)).setCell ⟨bBB, 4, none⟩ (.slice d2 t.arrays.length g2)).setCell ⟨bBB, 5, none⟩ (.int .i64 t.steps)).setCell ⟨bBB, 6, none⟩ (.int .i64 t.checks)).setCell ⟨bBB, 7, none⟩ (.slice d3 t.visits.length g3)) (bBB) #[(.int .i64 t.how), (.int .i64 t.value), (.int .i64 t.trap), (.slice d1 t.out.length g1), (.slice d2 t.arrays.length g2), (.int .i64 t.steps), (.int .i64 t.checks), (.slice d3 t.visits.length g3)] := by simpa using ((((((((((((((((BB.out.other (p := ⟨bBA, 0, none⟩) (.int .i64 s.how) (by first | assumption | (simp; done) | omega | (dsimp only; omega))).other (p := ⟨bBA, 1, none⟩) (.int .i64 s.value) (by first | assumption | (simp; done) | omega | (dsimp only; omega))).other (p := ⟨bBA, 2, none⟩) (.int .i64 s.trap) (by first | assumption | (simp; done) | omega | (dsimp only; omega))).other (p := ⟨bBA, 3, none⟩) (.slice a1 s.out.length c1) (by first | assumption | (simp; done) | omega | (dsimp only; omega))).other (p := ⟨bBA, 4, none⟩) (.slice a2 s.arrays.length c2) (by first | assumption | (simp; done) | omega | (dsimp only; omega))).other (p := ⟨bBA, 5, none⟩) (.int .i64 s.steps) (by first | assumption | (simp; done) | omega | (dsimp only; omega))).other (p := ⟨bBA, 6, none⟩) (.int .i64 s.checks) (by first | assumption | (simp; done) | omega | (dsimp only; omega))).other (p := ⟨bBA, 7, none⟩) (.slice a3 s.visits.length c3) (by first | assumption | (simp; done) | omega | (dsimp only; omega))).set 0 (.int .i64 t.how)).set 1 (.int .i64 t.value)).set 2 (.int .i64 t.trap)).set 3 (.slice d1 t.out.length g1)).set 4 (.slice d2 t.arrays.length g2)).set 5 (.int .i64 t.steps)).set 6 (.int .i64 t.checks)).set 7 (.slice d3 t.visits.length g3))
    have HOZ_ := ((((((((((((((((HOZ.out.other (p := ⟨bBA, 0, none⟩) (.int .i64 s.how) (by simp)).other (p := ⟨bBA, 1, none⟩) (.int .i64 s.value) (by simp)).other (p := ⟨bBA, 2, none⟩) (.int .i64 s.trap) (by simp)).other (p := ⟨bBA, 3, none⟩) (.slice a1 s.out.length c1) (by simp)).other (p := ⟨bBA, 4, none⟩) (.slice a2 s.arrays.length c2) (by simp)).other (p := ⟨bBA, 5, none⟩) (.int .i64 s.steps) (by simp)).other (p := ⟨bBA, 6, none⟩) (.int .i64 s.checks) (by simp)).other (p := ⟨bBA, 7, none⟩) (.slice a3 s.visits.length c3) (by simp)).other (p := ⟨bBB, 0, none⟩) (.int .i64 t.how) (by simp)).other (p := ⟨bBB, 1, none⟩) (.int .i64 t.value) (by simp)).other (p := ⟨bBB, 2, none⟩) (.int .i64 t.trap) (by simp)).other (p := ⟨bBB, 3, none⟩) (.slice d1 t.out.length g1) (by simp)).other (p := ⟨bBB, 4, none⟩) (.slice d2 t.arrays.length g2) (by simp)).other (p := ⟨bBB, 5, none⟩) (.int .i64 t.steps) (by simp)).other (p := ⟨bBB, 6, none⟩) (.int .i64 t.checks) (by simp)).other (p := ⟨bBB, 7, none⟩) (.slice d3 t.visits.length g3) (by simp))
    have HW_ : Below w.heap.size w ((((((((((((((((wg.setCell ⟨bBA, 0, none⟩ (.int .i64 s.how)).setCell ⟨bBA, 1, none⟩ (.int .i64 s.value)).setCell ⟨bBA, 2, none⟩ (.int .i64 s.trap)).setCell ⟨bBA, 3, none⟩ (.slice a1 s.out.length c1)).setCell ⟨bBA, 4, none⟩ (.slice a2 s.arrays.length c2)).setCell ⟨bBA, 5, none⟩ (.int .i64 s.steps)).setCell ⟨bBA, 6, none⟩ (.int .i64 s.checks)).setCell ⟨bBA, 7, none⟩ (.slice a3 s.visits.length c3)).setCell ⟨bBB, 0, none⟩ (.int .i64 t.how)).setCell ⟨bBB, 1, none⟩ (.int .i64 t.value)).setCell ⟨bBB, 2, none⟩ (.int .i64 t.trap)).setCell ⟨bBB, 3, none⟩ (.slice d1 t.out.length g1)).setCell ⟨bBB, 4, none⟩ (.slice d2 t.arrays.length g2)).setCell ⟨bBB, 5, none⟩ (.int .i64 t.steps)).setCell ⟨bBB, 6, none⟩ (.int .i64 t.checks)).setCell ⟨bBB, 7, none⟩ (.slice d3 t.visits.length g3)) := ((((((((((((((((HW.out.setCell (p := ⟨bBA, 0, none⟩) (by first | assumption | omega | (dsimp only; omega) | (have := HW.out.size; omega) | (simp; done) | (simp; omega)) (.int .i64 s.how)).setCell (p := ⟨bBA, 1, none⟩) (by first | assumption | omega | (dsimp only; omega) | (have := HW.out.size; omega) | (simp; done) | (simp; omega)) (.int .i64 s.value)).setCell (p := ⟨bBA, 2, none⟩) (by first | assumption | omega | (dsimp only; omega) | (have := HW.out.size; omega) | (simp; done) | (simp; omega)) (.int .i64 s.trap)).setCell (p := ⟨bBA, 3, none⟩) (by first | assumption | omega | (dsimp only; omega) | (have := HW.out.size; omega) | (simp; done) | (simp; omega)) (.slice a1 s.out.length c1)).setCell (p := ⟨bBA, 4, none⟩) (by first | assumption | omega | (dsimp only; omega) | (have := HW.out.size; omega) | (simp; done) | (simp; omega)) (.slice a2 s.arrays.length c2)).setCell (p := ⟨bBA, 5, none⟩) (by first | assumption | omega | (dsimp only; omega) | (have := HW.out.size; omega) | (simp; done) | (simp; omega)) (.int .i64 s.steps)).setCell (p := ⟨bBA, 6, none⟩) (by first | assumption | omega | (dsimp only; omega) | (have := HW.out.size; omega) | (simp; done) | (simp; omega)) (.int .i64 s.checks)).setCell (p := ⟨bBA, 7, none⟩) (by first | assumption | omega | (dsimp only; omega) | (have := HW.out.size; omega) | (simp; done) | (simp; omega)) (.slice a3 s.visits.length c3)).setCell (p := ⟨bBB, 0, none⟩) (by first | assumption | omega | (dsimp only; omega) | (have := HW.out.size; omega) | (simp; done) | (simp; omega)) (.int .i64 t.how)).setCell (p := ⟨bBB, 1, none⟩) (by first | assumption | omega | (dsimp only; omega) | (have := HW.out.size; omega) | (simp; done) | (simp; omega)) (.int .i64 t.value)).setCell (p := ⟨bBB, 2, none⟩) (by first | assumption | omega | (dsimp only; omega) | (have := HW.out.size; omega) | (simp; done) | (simp; omega)) (.int .i64 t.trap)).setCell (p := ⟨bBB, 3, none⟩) (by first | assumption | omega | (dsimp only; omega) | (have := HW.out.size; omega) | (simp; done) | (simp; omega)) (.slice d1 t.out.length g1)).setCell (p := ⟨bBB, 4, none⟩) (by first | assumption | omega | (dsimp only; omega) | (have := HW.out.size; omega) | (simp; done) | (simp; omega)) (.slice d2 t.arrays.length g2)).setCell (p := ⟨bBB, 5, none⟩) (by first | assumption | omega | (dsimp only; omega) | (have := HW.out.size; omega) | (simp; done) | (simp; omega)) (.int .i64 t.steps)).setCell (p := ⟨bBB, 6, none⟩) (by first | assumption | omega | (dsimp only; omega) | (have := HW.out.size; omega) | (simp; done) | (simp; omega)) (.int .i64 t.checks)).setCell (p := ⟨bBB, 7, none⟩) (by first | assumption | omega | (dsimp only; omega) | (have := HW.out.size; omega) | (simp; done) | (simp; omega)) (.slice d3 t.visits.length g3))
    clear lB4 cB4 fB4 lB5 cB5 fB5 lBA cBA fBA lBB cBB fBB
    clear B4 B5 BA BB HOZ HW
    generalize ((((((((((((((((wg.setCell ⟨bBA, 0, none⟩ (.int .i64 s.how)).setCell ⟨bBA, 1, none⟩ (.int .i64 s.value)).setCell ⟨bBA, 2, none⟩ (.int .i64 s.trap)).setCell ⟨bBA, 3, none⟩ (.slice a1 s.out.length c1)).setCell ⟨bBA, 4, none⟩ (.slice a2 s.arrays.length c2)).setCell ⟨bBA, 5, none⟩ (.int .i64 s.steps)).setCell ⟨bBA, 6, none⟩ (.int .i64 s.checks)).setCell ⟨bBA, 7, none⟩ (.slice a3 s.visits.length c3)).setCell ⟨bBB, 0, none⟩ (.int .i64 t.how)).setCell ⟨bBB, 1, none⟩ (.int .i64 t.value)).setCell ⟨bBB, 2, none⟩ (.int .i64 t.trap)).setCell ⟨bBB, 3, none⟩ (.slice d1 t.out.length g1)).setCell ⟨bBB, 4, none⟩ (.slice d2 t.arrays.length g2)).setCell ⟨bBB, 5, none⟩ (.int .i64 t.steps)).setCell ⟨bBB, 6, none⟩ (.int .i64 t.checks)).setCell ⟨bBB, 7, none⟩ (.slice d3 t.visits.length g3)) = w5 at *
    have B4 := Lib.hid B4_
    clear B4_
    have B5 := Lib.hid B5_
    clear B5_
    have BA := Lib.hid BA_
    clear BA_
    have BB := Lib.hid BB_
    clear BB_
    have HOZ := Lib.hid HOZ_
    clear HOZ_
    have HW := Lib.hid HW_
    clear HW_
    obtain ⟨lB4, cB4, fB4⟩ := B4.out
    obtain ⟨lB5, cB5, fB5⟩ := B5.out
    obtain ⟨lBA, cBA, fBA⟩ := BA.out
    obtain ⟨lBB, cBB, fBB⟩ := BB.out
    have HS5 : Hid (TraceV w5 (.agg #[.int .i64 s.how, .int .i64 s.value, .int .i64 s.trap, .slice a1 s.out.length c1, .slice a2 s.arrays.length c2, .int .i64 s.steps, .int .i64 s.checks, .slice a3 s.visits.length c3]) s) := Lib.hid (HS.out.off HOZ.out HN3.out).val
    have HT5 : Hid (TraceV w5 (.agg #[.int .i64 t.how, .int .i64 t.value, .int .i64 t.trap, .slice d1 t.out.length g1, .slice d2 t.arrays.length g2, .int .i64 t.steps, .int .i64 t.checks, .slice d3 t.visits.length g3]) t) := Lib.hid (HT.out.off HOZ.out HN7.out).val
    clear HS HT HOZ HN3 HN7

    go_wp2_with fail
    refine awake6.mono ?_
    rintro e w7 ⟨rfl, hb⟩
    clear lB4 cB4 fB4 lB5 cB5 fB5 lBA cBA fBA lBB cBB fBB
    replace B4 := Lib.hid (B4.out.later hb)
    replace B5 := Lib.hid (B5.out.later hb)
    replace BA := Lib.hid (BA.out.later hb)
    replace BB := Lib.hid (BB.out.later hb)
    replace HS5 := Lib.hid (HS5.out.later hb)
    replace HT5 := Lib.hid (HT5.out.later hb)
    replace HW := Lib.hid (HW.out.trans (hb.mono HW.out.size))
    clear hb
    obtain ⟨lB4, cB4, fB4⟩ := B4.out
    obtain ⟨lB5, cB5, fB5⟩ := B5.out
    obtain ⟨lBA, cBA, fBA⟩ := BA.out
    obtain ⟨lBB, cBB, fBB⟩ := BB.out
    by_cases h3 : s.how = 3
    · have hq : (s.how != 3) = false := by simpa using h3
      obtain ⟨e1, e2, ⟨l, e3⟩, e4⟩ := HB.out h3
      have hl : s.out.length ≤ t.out.length := by rw [e3, List.length_append]; omega
      have HL := Lib.hid hl
      have HX : Hid (∀ (k : Nat) (y : Int), s.out[k]? = some y → t.out[k]? = some y) := Lib.hid (fun k y hk => by rw [e3, List.getElem?_append_left (List.getElem?_eq_some_iff.1 hk).1]; exact hk)
      have q1 : (s.steps != (m : Int)) = false := by simpa using e1
      have q2 : decide (t.steps < (m : Int)) = false := by simp; omega
      have q3 : decide ((t.out.length : Int) < (s.out.length : Int)) = false := by simp; omega
      have q4 : decide (t.checks < s.checks) = false := by simp; omega
      clear e1 e2 e3 e4 hl h3
      go_wp2_with fail
      clear hq q1 q2 q3 q4
      have HSO := Lib.hid HS5.out.out
      have HTO := Lib.hid HT5.out.out
      have h44 := HSO.out.le
      clear lB4 cB4 fB4 lB5 cB5 fB5 lBA cBA fBA lBB cBB fBB
      have HW7 := HW
      have BA7 := BA
      have BB7 := BB
      go_loopw [13] (fun iv wr => ∃ k : Nat, k ≤ s.out.length ∧ iv = .int .i64 k ∧ Below w7.heap.size w7 wr) (fun iv _ => s.out.length - (intOf iv).toNat)
      case atStart => exact ⟨0, Nat.zero_le _, rfl, Below.refl _ _⟩
      case round =>
        obtain ⟨k, hk, rfl, hlw⟩ := hrel
        clear HW BA BB B4 B5 HS5 HT5
        have HLW := Lib.hid hlw
        have HW : Hid (Below w.heap.size w wr) := Lib.hid (HW7.out.trans (hlw.mono HW7.out.size))
        have BA := Lib.hid (BA7.out.later hlw)
        have BB := Lib.hid (BB7.out.later hlw)
        clear hlw



        obtain ⟨lBA, cBA, fBA⟩ := BA.out
        obtain ⟨lBB, cBB, fBB⟩ := BB.out
        by_cases hlt : k < s.out.length
        · obtain ⟨y, hy⟩ : ∃ y, s.out[k]? = some y := ⟨_, List.getElem?_eq_getElem hlt⟩
          obtain ⟨sb, so, sc, he, hsl, hsx⟩ := ints_at HSO.out (by omega)
          injection he with x1 x2 x3
          subst x1
          subst x3
          obtain ⟨tb, to, tc, he, htl, htx⟩ := ints_at HTO.out (by have := HL.out; omega)
          injection he with x1 x2 x3
          subst x1
          subst x3
          have c1 := (HLW.out.cell (p := ⟨sb, so + k, none⟩) hsl).trans (hsx k hlt)
          have c2 := (HLW.out.cell (p := ⟨tb, to + k, none⟩) htl).trans (htx k (by have := HL.out; omega))
          rw [getD_some hy] at c1
          rw [getD_some (HX.out k y hy)] at c2
          have hlt2 : k < t.out.length := by have := HL.out; omega
          have hyy : (y != y) = false := by simp
          clear hsx htx hy
          go_upto_region 12 with (fail)
          go_quiet (fail)
          clear c1 c2
          clear lBA cBA fBA lBB cBB fBB
          go_wp2
          go_roundw
          case rel => exact ⟨k + 1, hlt, by go_num, below_drewN HLW.out nq⟩
          case measure => simp [intOf]; omega
        · obtain rfl : s.out.length = k := by omega
          go_wp2
          go_ret
          exact ⟨rfl, HW.out⟩
    · have hq : (s.how != 3) = true := by simpa using h3
      have hsm : sameT s t = true := by rw [HA.out h3]; exact sameT_self _
      go_wp2_with fail
      refine awake6.mono ?_
      rintro e w8 ⟨rfl, hb⟩
      clear lB4 cB4 fB4 lB5 cB5 fB5 lBA cBA fBA lBB cBB fBB
      replace B4 := Lib.hid (B4.out.later hb)
      replace B5 := Lib.hid (B5.out.later hb)
      replace BA := Lib.hid (BA.out.later hb)
      replace BB := Lib.hid (BB.out.later hb)
      replace HS5 := Lib.hid (HS5.out.later hb)
      replace HT5 := Lib.hid (HT5.out.later hb)
      replace HW := Lib.hid (HW.out.trans (hb.mono HW.out.size))
      clear hb
      obtain ⟨lB4, cB4, fB4⟩ := B4.out
      obtain ⟨lB5, cB5, fB5⟩ := B5.out
      obtain ⟨lBA, cBA, fBA⟩ := BA.out
      obtain ⟨lBB, cBB, fBB⟩ := BB.out
      go_wp2_with fail
      refine (refSame HS5.out HT5.out).mono ?_
      rintro e w9 ⟨rfl, hb⟩
      rw [hsm]
      clear lB4 cB4 fB4 lB5 cB5 fB5 lBA cBA fBA lBB cBB fBB
      replace B4 := Lib.hid (B4.out.later hb)
      replace B5 := Lib.hid (B5.out.later hb)
      replace BA := Lib.hid (BA.out.later hb)
      replace BB := Lib.hid (BB.out.later hb)
      replace HS5 := Lib.hid (HS5.out.later hb)
      replace HT5 := Lib.hid (HT5.out.later hb)
      replace HW := Lib.hid (HW.out.trans (hb.mono HW.out.size))
      clear hb
      obtain ⟨lB4, cB4, fB4⟩ := B4.out
      obtain ⟨lB5, cB5, fB5⟩ := B5.out
      obtain ⟨lBA, cBA, fBA⟩ := BA.out
      obtain ⟨lBB, cBB, fBB⟩ := BB.out
      go_wp2
      go_ret
      exact ⟨rfl, HW.out⟩
end Go.Proofs.Ytjmikinbdclfbaa
