/- What the claim needs, part 40. -/
import Derived.Test.YtjmikinbdclfbaaCB39
import Derived.Test.YtjmikinbdclfbaaCB35
import Derived.OwnWalk
import Derived.Test.YtjmikinbdclfbaaCB22
import Derived.Test.YtjmikinbdclfbaaCB33
import Derived.Test.YtjmikinbdclfbaaCB29
namespace Go.Proofs.Ytjmikinbdclfbaa
set_option linter.unusedSimpArgs false
set_option linter.unusedVariables false
open Go.RowKit
def alikeT (t u : TraceD) : Bool := (t.how == u.how) && (t.value == u.value) && (t.trap == u.trap) && decide (t.out = u.out) && decide (t.arrays = u.arrays)
def sameT (t u : TraceD) : Bool := alikeT t u && (t.steps == u.steps) && (t.checks == u.checks) && decide (t.visits = u.visits)
theorem sameT_self (t : TraceD) : sameT t t = true := by simp [sameT, alikeT]
def TellsR (b : Bool) (w : World) (e : Ending) (w' : World) : Prop := e = .returned (.bool b) ∧ Below w.heap.size w w'
theorem below_drew (w : World) (n : Nat) : Below w.heap.size w (w.drewN n) := ⟨rfl, rfl, rfl, Nat.le_refl _, fun _ _ => rfl⟩
set_option maxHeartbeats 6400000 in
theorem refAlike {w : World} {v v' : Value} {t u : TraceD} (ht : TraceV w v t) (hu : TraceV w v' u) : Calls Try.prog 29 #[v, v'] w (TellsR (alikeT t u) w) := by
  rcases t with ⟨x0, x1, x2, xo, xa, x5, x6, xv⟩
  rcases u with ⟨y0, y1, y2, yo, ya, y5, y6, yv⟩
  obtain ⟨o1, a1, v1, rfl, ho1, ha1, hv1⟩ := ht
  obtain ⟨o2, a2, v2, rfl, ho2, ha2, hv2⟩ := hu
  simp only at ho1 ha1 hv1 ho2 ha2 hv2 ⊢
  have HO1 := Lib.hid ho1
  have HO2 := Lib.hid ho2
  have HA1 := Lib.hid ha1
  have HA2 := Lib.hid ha2
  obtain ⟨b1, c1, rfl⟩ := ho1.form
  obtain ⟨b2, c2, rfl⟩ := ho2.form
  obtain ⟨b3, c3, rfl⟩ := hv1.form
  obtain ⟨b4, c4, rfl⟩ := hv2.form
  obtain ⟨_, b5, c5, _, _, rfl, -, -, -, -, -, -⟩ := ha1.parts
  obtain ⟨_, b6, c6, _, _, rfl, -, -, -, -, -, -⟩ := ha2.parts
  clear ho1 ho2 ha1 ha2 hv1 hv2
  go_enter Try.func29, Try.ntmps29
  go_upto_region 1 with (fail)
  have B2 : Hid (Box ((w.alloc (.cells #[.int .i64 x0, .int .i64 x1, .int .i64 x2, .slice b1 xo.length c1, .slice b5 xa.length c5, .int .i64 x5, .int .i64 x6, .slice b3 xv.length c3] 37)).alloc (.cells #[.int .i64 y0, .int .i64 y1, .int .i64 y2, .slice b2 yo.length c2, .slice b6 ya.length c6, .int .i64 y5, .int .i64 y6, .slice b4 yv.length c4] 37)) (w.heap.size) #[.int .i64 x0, .int .i64 x1, .int .i64 x2, .slice b1 xo.length c1, .slice b5 xa.length c5, .int .i64 x5, .int .i64 x6, .slice b3 xv.length c3]) := Lib.hid (by simpa using ((Box.new w #[.int .i64 x0, .int .i64 x1, .int .i64 x2, .slice b1 xo.length c1, .slice b5 xa.length c5, .int .i64 x5, .int .i64 x6, .slice b3 xv.length c3] 37).alloc _))
  have B3 : Hid (Box ((w.alloc (.cells #[.int .i64 x0, .int .i64 x1, .int .i64 x2, .slice b1 xo.length c1, .slice b5 xa.length c5, .int .i64 x5, .int .i64 x6, .slice b3 xv.length c3] 37)).alloc (.cells #[.int .i64 y0, .int .i64 y1, .int .i64 y2, .slice b2 yo.length c2, .slice b6 ya.length c6, .int .i64 y5, .int .i64 y6, .slice b4 yv.length c4] 37)) (w.heap.size + 1) #[.int .i64 y0, .int .i64 y1, .int .i64 y2, .slice b2 yo.length c2, .slice b6 ya.length c6, .int .i64 y5, .int .i64 y6, .slice b4 yv.length c4]) := Lib.hid (by simpa using (Box.new (w.alloc (.cells #[.int .i64 x0, .int .i64 x1, .int .i64 x2, .slice b1 xo.length c1, .slice b5 xa.length c5, .int .i64 x5, .int .i64 x6, .slice b3 xv.length c3] 37)) #[.int .i64 y0, .int .i64 y1, .int .i64 y2, .slice b2 yo.length c2, .slice b6 ya.length c6, .int .i64 y5, .int .i64 y6, .slice b4 yv.length c4] 37))
  have HW : Hid (Below w.heap.size w ((w.alloc (.cells #[.int .i64 x0, .int .i64 x1, .int .i64 x2, .slice b1 xo.length c1, .slice b5 xa.length c5, .int .i64 x5, .int .i64 x6, .slice b3 xv.length c3] 37)).alloc (.cells #[.int .i64 y0, .int .i64 y1, .int .i64 y2, .slice b2 yo.length c2, .slice b6 ya.length c6, .int .i64 y5, .int .i64 y6, .slice b4 yv.length c4] 37))) := Lib.hid (((Below.refl _ _).alloc (Nat.le_refl _) _).alloc (by simp) _)
  generalize ((w.alloc (.cells #[.int .i64 x0, .int .i64 x1, .int .i64 x2, .slice b1 xo.length c1, .slice b5 xa.length c5, .int .i64 x5, .int .i64 x6, .slice b3 xv.length c3] 37)).alloc (.cells #[.int .i64 y0, .int .i64 y1, .int .i64 y2, .slice b2 yo.length c2, .slice b6 ya.length c6, .int .i64 y5, .int .i64 y6, .slice b4 yv.length c4] 37)) = wv at *
  obtain ⟨lB2, cB2, fB2⟩ := B2.out
  obtain ⟨lB3, cB3, fB3⟩ := B3.out
  cases q0 : (x0 == y0)
  · have HRES : Hid (alikeT ⟨x0, x1, x2, xo, xa, x5, x6, xv⟩ ⟨y0, y1, y2, yo, ya, y5, y6, yv⟩ = false) := Lib.hid (by simp [alikeT, q0])
    go_wp2
    go_ret
    exact ⟨by rw [HRES.out]; rfl, HW.out⟩
  cases q1 : (x1 == y1)
  · have HRES : Hid (alikeT ⟨x0, x1, x2, xo, xa, x5, x6, xv⟩ ⟨y0, y1, y2, yo, ya, y5, y6, yv⟩ = false) := Lib.hid (by simp [alikeT, q0, q1])
    go_wp2
    go_ret
    exact ⟨by rw [HRES.out]; rfl, HW.out⟩
  cases q2 : (x2 == y2)
  · have HRES : Hid (alikeT ⟨x0, x1, x2, xo, xa, x5, x6, xv⟩ ⟨y0, y1, y2, yo, ya, y5, y6, yv⟩ = false) := Lib.hid (by simp [alikeT, q0, q1, q2])
    go_wp2
    go_ret
    exact ⟨by rw [HRES.out]; rfl, HW.out⟩
  have HQ := Lib.hid (show (x0 == y0) = true ∧ (x1 == y1) = true ∧ (x2 == y2) = true from ⟨q0, q1, q2⟩)
  go_wp2_with fail
  refine (sameInts (HO1.out.below HW.out) (HO2.out.below HW.out)).mono ?_
  rintro e w2 ⟨rfl, n, rfl⟩
  have hb := below_drew wv n
  generalize wv.drewN n = w2 at *
  clear lB2 cB2 fB2 lB3 cB3 fB3
  replace B2 := Lib.hid (B2.out.later hb)
  replace B3 := Lib.hid (B3.out.later hb)
  replace HW := Lib.hid (HW.out.trans (hb.mono HW.out.size))
  clear hb
  obtain ⟨lB2, cB2, fB2⟩ := B2.out
  obtain ⟨lB3, cB3, fB3⟩ := B3.out
  cases q3 : decide (xo = yo)
  · have HRES : Hid (alikeT ⟨x0, x1, x2, xo, xa, x5, x6, xv⟩ ⟨y0, y1, y2, yo, ya, y5, y6, yv⟩ = false) := Lib.hid (by simp only [alikeT, q3]; simp)
    go_wp2
    go_ret
    exact ⟨by rw [HRES.out]; rfl, HW.out⟩
  have HQ3 := Lib.hid q3
  go_wp2_with fail
  refine (sameLists (HA1.out.below HW.out) (HA2.out.below HW.out)).mono ?_
  rintro e w3 ⟨rfl, hb⟩
  have HRES : Hid (alikeT ⟨x0, x1, x2, xo, xa, x5, x6, xv⟩ ⟨y0, y1, y2, yo, ya, y5, y6, yv⟩ = decide (xa = ya)) := Lib.hid (by simp only [alikeT, q3, q0, q1, q2]; simp)
  clear lB2 cB2 fB2 lB3 cB3 fB3
  replace B2 := Lib.hid (B2.out.later hb)
  replace B3 := Lib.hid (B3.out.later hb)
  replace HW := Lib.hid (HW.out.trans (hb.mono HW.out.size))
  clear hb
  obtain ⟨lB2, cB2, fB2⟩ := B2.out
  obtain ⟨lB3, cB3, fB3⟩ := B3.out
  go_wp2
  go_ret
  exact ⟨by rw [HRES.out]; rfl, HW.out⟩
set_option maxHeartbeats 6400000 in
theorem refSame {w : World} {v v' : Value} {t u : TraceD} (ht : TraceV w v t) (hu : TraceV w v' u) : Calls Try.prog 14 #[v, v'] w (TellsR (sameT t u) w) := by
  have HT := Lib.hid ht
  have HU := Lib.hid hu
  rcases t with ⟨x0, x1, x2, xo, xa, x5, x6, xv⟩
  rcases u with ⟨y0, y1, y2, yo, ya, y5, y6, yv⟩
  obtain ⟨o1, a1, v1, rfl, ho1, ha1, hv1⟩ := ht
  obtain ⟨o2, a2, v2, rfl, ho2, ha2, hv2⟩ := hu
  simp only at ho1 ha1 hv1 ho2 ha2 hv2 HT HU ⊢
  have HO1 := Lib.hid hv1
  have HO2 := Lib.hid hv2
  obtain ⟨b1, c1, rfl⟩ := ho1.form
  obtain ⟨b2, c2, rfl⟩ := ho2.form
  obtain ⟨b3, c3, rfl⟩ := hv1.form
  obtain ⟨b4, c4, rfl⟩ := hv2.form
  obtain ⟨_, b5, c5, _, _, rfl, -, -, -, -, -, -⟩ := ha1.parts
  obtain ⟨_, b6, c6, _, _, rfl, -, -, -, -, -, -⟩ := ha2.parts
  clear ho1 ho2 ha1 ha2 hv1 hv2
  go_enter Try.func14, Try.ntmps14
  go_upto_region 1 with (fail)
  have B2 : Hid (Box ((w.alloc (.cells #[.int .i64 x0, .int .i64 x1, .int .i64 x2, .slice b1 xo.length c1, .slice b5 xa.length c5, .int .i64 x5, .int .i64 x6, .slice b3 xv.length c3] 37)).alloc (.cells #[.int .i64 y0, .int .i64 y1, .int .i64 y2, .slice b2 yo.length c2, .slice b6 ya.length c6, .int .i64 y5, .int .i64 y6, .slice b4 yv.length c4] 37)) (w.heap.size) #[.int .i64 x0, .int .i64 x1, .int .i64 x2, .slice b1 xo.length c1, .slice b5 xa.length c5, .int .i64 x5, .int .i64 x6, .slice b3 xv.length c3]) := Lib.hid (by simpa using ((Box.new w #[.int .i64 x0, .int .i64 x1, .int .i64 x2, .slice b1 xo.length c1, .slice b5 xa.length c5, .int .i64 x5, .int .i64 x6, .slice b3 xv.length c3] 37).alloc _))
  have B3 : Hid (Box ((w.alloc (.cells #[.int .i64 x0, .int .i64 x1, .int .i64 x2, .slice b1 xo.length c1, .slice b5 xa.length c5, .int .i64 x5, .int .i64 x6, .slice b3 xv.length c3] 37)).alloc (.cells #[.int .i64 y0, .int .i64 y1, .int .i64 y2, .slice b2 yo.length c2, .slice b6 ya.length c6, .int .i64 y5, .int .i64 y6, .slice b4 yv.length c4] 37)) (w.heap.size + 1) #[.int .i64 y0, .int .i64 y1, .int .i64 y2, .slice b2 yo.length c2, .slice b6 ya.length c6, .int .i64 y5, .int .i64 y6, .slice b4 yv.length c4]) := Lib.hid (by simpa using (Box.new (w.alloc (.cells #[.int .i64 x0, .int .i64 x1, .int .i64 x2, .slice b1 xo.length c1, .slice b5 xa.length c5, .int .i64 x5, .int .i64 x6, .slice b3 xv.length c3] 37)) #[.int .i64 y0, .int .i64 y1, .int .i64 y2, .slice b2 yo.length c2, .slice b6 ya.length c6, .int .i64 y5, .int .i64 y6, .slice b4 yv.length c4] 37))
  have HW : Hid (Below w.heap.size w ((w.alloc (.cells #[.int .i64 x0, .int .i64 x1, .int .i64 x2, .slice b1 xo.length c1, .slice b5 xa.length c5, .int .i64 x5, .int .i64 x6, .slice b3 xv.length c3] 37)).alloc (.cells #[.int .i64 y0, .int .i64 y1, .int .i64 y2, .slice b2 yo.length c2, .slice b6 ya.length c6, .int .i64 y5, .int .i64 y6, .slice b4 yv.length c4] 37))) := Lib.hid (((Below.refl _ _).alloc (Nat.le_refl _) _).alloc (by simp) _)
  generalize ((w.alloc (.cells #[.int .i64 x0, .int .i64 x1, .int .i64 x2, .slice b1 xo.length c1, .slice b5 xa.length c5, .int .i64 x5, .int .i64 x6, .slice b3 xv.length c3] 37)).alloc (.cells #[.int .i64 y0, .int .i64 y1, .int .i64 y2, .slice b2 yo.length c2, .slice b6 ya.length c6, .int .i64 y5, .int .i64 y6, .slice b4 yv.length c4] 37)) = wv at *
  obtain ⟨lB2, cB2, fB2⟩ := B2.out
  obtain ⟨lB3, cB3, fB3⟩ := B3.out
  go_wp2_with fail
  refine (refAlike (HT.out.below HW.out) (HU.out.below HW.out)).mono ?_
  rintro e w2 ⟨rfl, hb⟩
  clear lB2 cB2 fB2 lB3 cB3 fB3
  replace B2 := Lib.hid (B2.out.later hb)
  replace B3 := Lib.hid (B3.out.later hb)
  replace HW := Lib.hid (HW.out.trans (hb.mono HW.out.size))
  clear hb
  obtain ⟨lB2, cB2, fB2⟩ := B2.out
  obtain ⟨lB3, cB3, fB3⟩ := B3.out
  obtain ⟨r, hr⟩ : ∃ r, r = alikeT ⟨x0, x1, x2, xo, xa, x5, x6, xv⟩ ⟨y0, y1, y2, yo, ya, y5, y6, yv⟩ := ⟨_, rfl⟩
  have HD : Hid (sameT ⟨x0, x1, x2, xo, xa, x5, x6, xv⟩ ⟨y0, y1, y2, yo, ya, y5, y6, yv⟩ = (r && (x5 == y5) && (x6 == y6) && decide (xv = yv))) := Lib.hid (by rw [hr]; rfl)
  rw [← hr]
  clear hr
  cases r
  · have HRES : Hid (sameT ⟨x0, x1, x2, xo, xa, x5, x6, xv⟩ ⟨y0, y1, y2, yo, ya, y5, y6, yv⟩ = false) := Lib.hid (by rw [HD.out]; rfl)
    go_wp2
    go_ret
    exact ⟨by rw [HRES.out]; rfl, HW.out⟩
  cases q1 : (x5 == y5)
  · have HRES : Hid (sameT ⟨x0, x1, x2, xo, xa, x5, x6, xv⟩ ⟨y0, y1, y2, yo, ya, y5, y6, yv⟩ = false) := Lib.hid (by rw [HD.out, q1]; rfl)
    go_wp2
    go_ret
    exact ⟨by rw [HRES.out]; rfl, HW.out⟩
  cases q2 : (x6 == y6)
  · have HRES : Hid (sameT ⟨x0, x1, x2, xo, xa, x5, x6, xv⟩ ⟨y0, y1, y2, yo, ya, y5, y6, yv⟩ = false) := Lib.hid (by rw [HD.out, q1, q2]; rfl)
    go_wp2
    go_ret
    exact ⟨by rw [HRES.out]; rfl, HW.out⟩
  have HD2 : Hid (sameT ⟨x0, x1, x2, xo, xa, x5, x6, xv⟩ ⟨y0, y1, y2, yo, ya, y5, y6, yv⟩ = decide (xv = yv)) := Lib.hid (by rw [HD.out, q1, q2]; rfl)
  go_wp2_with fail
  refine (sameInts (HO1.out.below HW.out) (HO2.out.below HW.out)).mono ?_
  rintro e w3 ⟨rfl, n, rfl⟩
  have hb := below_drew w2 n
  generalize w2.drewN n = w3 at *
  clear lB2 cB2 fB2 lB3 cB3 fB3
  replace B2 := Lib.hid (B2.out.later hb)
  replace B3 := Lib.hid (B3.out.later hb)
  replace HW := Lib.hid (HW.out.trans (hb.mono HW.out.size))
  clear hb
  obtain ⟨lB2, cB2, fB2⟩ := B2.out
  obtain ⟨lB3, cB3, fB3⟩ := B3.out
  have HRES := HD2
  go_wp2
  go_ret
  exact ⟨by rw [HRES.out]; rfl, HW.out⟩
end Go.Proofs.Ytjmikinbdclfbaa
namespace Go.Proofs.Ytjmikinbdclfbaa
set_option linter.unusedSimpArgs false
set_option linter.unusedVariables false
open Go.RowKit
theorem simplest_fault : FaultR simplest 0 0 := by
  refine .inr ⟨fun d hd => ?_, .inr ⟨fun d y hy => ?_, .inr ⟨fun v hv => ?_, rfl, rfl⟩⟩⟩
  · have h1 : d < 1 := hd
    obtain rfl : d = 0 := by omega
    exact .zero (by decide)
  · have h1 := (List.getElem?_eq_some_iff.1 hy).1
    have h2 : d < 1 := h1
    obtain rfl : d = 0 := by omega
    have h3 : some (⟨[], [⟨1, 0, [], 5⟩], ⟨3, 0, [], 0⟩⟩ : BlockD) = some y := hy
    injection h3 with h3
    rw [← h3]; rfl
  · have h9 : ∀ v ∈ uxF simplest, v.id = 0 ∧ v.blk = 0 ∧ v.pos = 1 := by decide
    obtain ⟨h1, h2, h3⟩ := h9 v hv
    exact ⟨0, 0, by rw [h1, entF_simplest]; rfl, .inr ⟨by omega, .inl ⟨h2.symm, by omega⟩⟩⟩
theorem simplest_run : ∃ s1, blockR simplest 9 (-1) 0 (startS simplest ⟨[], []⟩) = .over ⟨1, 5, 0⟩ s1 ∧ s1.steps = 2 := ⟨_, rfl, rfl⟩
theorem simplest_trace {t : TraceD} (h : RunP simplest ⟨[], []⟩ 9 t) : t.how = 1 ∧ t.value = 5 ∧ t.steps = 2 := by
  rcases h with ⟨-, hn⟩ | ⟨-, -, -, o, s, hr, rfl⟩
  · exact absurd ⟨simplest_ok.1, simplest_fault, by omega⟩ hn
  · obtain ⟨s1, h1, h2⟩ := simplest_run
    obtain ⟨rfl, rfl⟩ := hr.one (Runs.over h1)
    exact ⟨rfl, rfl, by show ((s.steps : Nat) : Int) = 2; rw [h2]; rfl⟩
set_option maxHeartbeats 6400000 in
theorem awake6 {w : World} : Calls Try.prog 12 #[] w (TellsR true w) := by
  go_enter Try.func12, Try.ntmps12
  go_wp2_with fail
  have B0 : Hid (Box ((w.alloc (.cells #[.int .i64 1, .int .i64 0, .slice none 0 0, .int .i64 5] 70)).alloc (.cells #[.slice none 0 0, .slice (some ⟨w.heap.size, 0, none⟩) 1 1, .int .i64 3, .int .i64 0, .slice none 0 0, .int .i64 0] 49)) (w.heap.size) #[.int .i64 1, .int .i64 0, .slice none 0 0, .int .i64 5]) := Lib.hid (by simpa using ((Box.new w #[.int .i64 1, .int .i64 0, .slice none 0 0, .int .i64 5] 70).alloc _))
  have B1 : Hid (Box ((w.alloc (.cells #[.int .i64 1, .int .i64 0, .slice none 0 0, .int .i64 5] 70)).alloc (.cells #[.slice none 0 0, .slice (some ⟨w.heap.size, 0, none⟩) 1 1, .int .i64 3, .int .i64 0, .slice none 0 0, .int .i64 0] 49)) (w.heap.size + 1) #[.slice none 0 0, .slice (some ⟨w.heap.size, 0, none⟩) 1 1, .int .i64 3, .int .i64 0, .slice none 0 0, .int .i64 0]) := Lib.hid (by simpa using (Box.new (w.alloc (.cells #[.int .i64 1, .int .i64 0, .slice none 0 0, .int .i64 5] 70)) #[.slice none 0 0, .slice (some ⟨w.heap.size, 0, none⟩) 1 1, .int .i64 3, .int .i64 0, .slice none 0 0, .int .i64 0] 49))
  have HW : Hid (Below w.heap.size w ((w.alloc (.cells #[.int .i64 1, .int .i64 0, .slice none 0 0, .int .i64 5] 70)).alloc (.cells #[.slice none 0 0, .slice (some ⟨w.heap.size, 0, none⟩) 1 1, .int .i64 3, .int .i64 0, .slice none 0 0, .int .i64 0] 49))) := Lib.hid (((Below.refl _ _).alloc (Nat.le_refl _) _).alloc (by simp) _)
  generalize ((w.alloc (.cells #[.int .i64 1, .int .i64 0, .slice none 0 0, .int .i64 5] 70)).alloc (.cells #[.slice none 0 0, .slice (some ⟨w.heap.size, 0, none⟩) 1 1, .int .i64 3, .int .i64 0, .slice none 0 0, .int .i64 0] 49)) = wv at *
  obtain ⟨lB0, cB0, fB0⟩ := B0.out
  obtain ⟨lB1, cB1, fB1⟩ := B1.out
  refine (runC (i := ⟨[], []⟩) (simplest_val B0.out B1.out) ⟨_, _, rfl, Ints.nil, ⟨[], rfl, Row.nil, fun j hj => absurd hj (by show ¬ j < 0; omega)⟩⟩ ⟨by decide, by decide⟩).mono ?_
  rintro e w2 ⟨v, t, rfl, hp, ht, hb⟩
  obtain ⟨p1, p2, p3⟩ := simplest_trace hp
  obtain ⟨ov, av, vv, rfl, ho, ha, hv⟩ := ht
  obtain ⟨b1, c1, rfl⟩ := ho.form
  obtain ⟨b3, c3, rfl⟩ := hv.form
  obtain ⟨_, b5, c5, _, _, rfl, -, -, -, -, -, -⟩ := ha.parts
  rw [p1, p2, p3]
  clear ho ha hv hp p1 p2 p3
  clear lB0 cB0 fB0 lB1 cB1 fB1
  replace B0 := Lib.hid (B0.out.later hb)
  replace B1 := Lib.hid (B1.out.later hb)
  replace HW := Lib.hid (HW.out.trans (hb.mono HW.out.size))
  clear hb
  obtain ⟨lB0, cB0, fB0⟩ := B0.out
  obtain ⟨lB1, cB1, fB1⟩ := B1.out
  clear lB0 cB0 fB0 lB1 cB1 fB1
  go_wp2
  go_ret
  exact ⟨rfl, HW.out.alloc HW.out.size _⟩
end Go.Proofs.Ytjmikinbdclfbaa
namespace Go.Proofs.Ytjmikinbdclfbaa
set_option linter.unusedSimpArgs false
set_option linter.unusedVariables false
open Go.RowKit
set_option maxHeartbeats 1600000 in
theorem walkCalc {w : World} {v : Value} {op : Int} {xs : List Int} (h64 : In64 op) (hv : Ints w v xs) :
    Calls Try.prog 3 #[.int .i64 op, v] w fun e w' => e = .returned (.bool true) ∧ Below w.heap.size w w' := by
  obtain ⟨a, c, b, o, rfl, hc, hm, -, -⟩ := hv.parts
  have h64b := hv.le
  by_cases h : 10 < xs.length
  · have HX : Hid (Ints w (.slice a 10 c) (xs.take 10)) := Lib.hid (hv.take (k := 10) (by omega))
    obtain ⟨n, hn⟩ : ∃ n, n = xs.length := ⟨_, rfl⟩
    rw [← hn] at h hc h64b ⊢
    have ht : decide ((10 : Int) < (n : Int)) = true := by simp; omega
    clear hv hn
    go_enter Try.func3, Try.ntmps3
    go_wp2_with fail
    refine (calcC HX.out).mono ?_
    rintro e w1 ⟨rfl, hb1⟩
    have HB1 := Lib.hid hb1
    clear hb1
    go_wp2_with fail
    refine (refCalc (HX.out.below HB1.out)).mono ?_
    rintro e w2 ⟨rfl, hb2⟩
    have HB2 : Hid (Below w.heap.size w w2) := Lib.hid (HB1.out.trans (hb2.mono HB1.out.size))
    clear hb2
    generalize calcV op (xs.take 10) = cv at *
    generalize calcE op (xs.take 10) = ce at *
    have e1 : (cv == cv) = true := by simp
    have e2 : (ce == ce) = true := by simp
    go_wp2_with fail
    refine awake6.mono ?_
    rintro e w3 ⟨rfl, hb3⟩
    have HB3 : Hid (Below w.heap.size w w3) := Lib.hid (HB2.out.trans (hb3.mono HB2.out.size))
    clear hb3
    go_wp2
    go_ret
    exact ⟨rfl, HB3.out⟩
  · have HX : Hid (Ints w (.slice a xs.length c) xs) := Lib.hid hv
    have HXL := Lib.hid (rfl : xs.length = xs.length)
    have ht : decide ((10 : Int) < (xs.length : Int)) = false := by simp; omega
    clear hv
    go_enter Try.func3, Try.ntmps3
    go_wp2_with fail
    refine (calcC HX.out).mono ?_
    rintro e w1 ⟨rfl, hb1⟩
    have HB1 := Lib.hid hb1
    clear hb1
    go_wp2_with fail
    refine (refCalc (HX.out.below HB1.out)).mono ?_
    rintro e w2 ⟨rfl, hb2⟩
    have HB2 : Hid (Below w.heap.size w w2) := Lib.hid (HB1.out.trans (hb2.mono HB1.out.size))
    clear hb2
    generalize calcV op xs = cv at *
    generalize calcE op xs = ce at *
    have e1 : (cv == cv) = true := by simp
    have e2 : (ce == ce) = true := by simp
    go_wp2_with fail
    refine awake6.mono ?_
    rintro e w3 ⟨rfl, hb3⟩
    have HB3 : Hid (Below w.heap.size w w3) := Lib.hid (HB2.out.trans (hb3.mono HB2.out.size))
    clear hb3
    go_wp2
    go_ret
    exact ⟨rfl, HB3.out⟩
end Go.Proofs.Ytjmikinbdclfbaa
