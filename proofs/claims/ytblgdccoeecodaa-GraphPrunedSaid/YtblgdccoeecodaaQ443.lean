/- What the claim needs, part 43. -/
import Derived.Test.YtblgdccoeecodaaQ439
import Derived.Test.YtblgdccoeecodaaQ441
import Derived.Test.YtblgdccoeecodaaQ442
namespace Go.Proofs.Ytblgdccoeecodaa
set_option linter.unusedSimpArgs false
set_option linter.unusedVariables false
open Go.RowKit
set_option maxHeartbeats 6400000 in
theorem walkGPrunes {w : World} {v : Value} (f : FuncD) (hv : FuncV w v f) :
    Calls Try.prog 3 #[v] w fun e w' => e = .returned (.bool true) ∧ Below w.heap.size w w' := by
  have HV := Lib.hid hv
  obtain ⟨ap, cp, ab, cb, rfl, -, -, -, -⟩ := hv.form
  clear hv
  go_enter Try.func3, Try.ntmps3
  go_upto_region 1 with (fail)
  have B1 : Hid (Box (w.alloc (.cells #[.slice ap f.params.length cp, .int .i64 f.arrays, .int .i64 f.cells, .slice ab f.blocks.length cb] 25)) (w.heap.size) #[.slice ap f.params.length cp, .int .i64 f.arrays, .int .i64 f.cells, .slice ab f.blocks.length cb]) := Lib.hid (by simpa using (Box.new w #[.slice ap f.params.length cp, .int .i64 f.arrays, .int .i64 f.cells, .slice ab f.blocks.length cb] 25))
  have HW : Hid (Below w.heap.size w (w.alloc (.cells #[.slice ap f.params.length cp, .int .i64 f.arrays, .int .i64 f.cells, .slice ab f.blocks.length cb] 25))) := Lib.hid ((Below.refl _ _).alloc (Nat.le_refl _) _)
  generalize (w.alloc (.cells #[.slice ap f.params.length cp, .int .i64 f.arrays, .int .i64 f.cells, .slice ab f.blocks.length cb] 25)) = wv at *
  obtain ⟨lB1, cB1, fB1⟩ := B1.out
  go_wp2_with fail
  refine (graphPrune (HV.out.below HW.out)).mono ?_
  rintro e w2 ⟨va, S, rfl, hO, -, hb⟩
  obtain ⟨fa, hfa⟩ : ∃ fa, fa = pruneF f := ⟨_, rfl⟩
  rw [← hfa] at hO ⊢
  have HFA := Lib.hid hfa
  have HA := Lib.hid hO.reads
  obtain ⟨ap2, cp2, ab2, cb2, rfl, -, -, -, -⟩ := hO.reads.form
  clear hO hfa
  obtain ⟨ea, hea⟩ : ∃ ea, ea = fa.2 := ⟨_, rfl⟩
  rw [← hea]
  have HEA := Lib.hid hea
  clear hea
  clear lB1 cB1 fB1
  replace B1 := Lib.hid (B1.out.later hb)
  replace HW := Lib.hid (HW.out.trans (hb.mono HW.out.size))
  clear hb
  obtain ⟨lB1, cB1, fB1⟩ := B1.out

  go_upto_region 2 with (fail)
  have nB2B1 : w2.heap.size ≠ w.heap.size := fun e => by have := lB1; omega
  have nB1B2 : w.heap.size ≠ w2.heap.size := fun e => nB2B1 e.symm
  have B1_ : Box (w2.alloc (.cells #[.slice ap2 fa.1.params.length cp2, .int .i64 fa.1.arrays, .int .i64 fa.1.cells, .slice ab2 fa.1.blocks.length cb2] 25)) (w.heap.size) #[.slice ap f.params.length cp, .int .i64 f.arrays, .int .i64 f.cells, .slice ab f.blocks.length cb] := by simpa using (B1.out.alloc _)
  have B2_ : Box (w2.alloc (.cells #[.slice ap2 fa.1.params.length cp2, .int .i64 fa.1.arrays, .int .i64 fa.1.cells, .slice ab2 fa.1.blocks.length cb2] 25)) (w2.heap.size) #[.slice ap2 fa.1.params.length cp2, .int .i64 fa.1.arrays, .int .i64 fa.1.cells, .slice ab2 fa.1.blocks.length cb2] := by simpa using (Box.new w2 #[.slice ap2 fa.1.params.length cp2, .int .i64 fa.1.arrays, .int .i64 fa.1.cells, .slice ab2 fa.1.blocks.length cb2] 25)
  have HA_ := (HA.out.alloc (.cells #[.slice ap2 fa.1.params.length cp2, .int .i64 fa.1.arrays, .int .i64 fa.1.cells, .slice ab2 fa.1.blocks.length cb2] 25))
  have HW_ : Below w.heap.size w (w2.alloc (.cells #[.slice ap2 fa.1.params.length cp2, .int .i64 fa.1.arrays, .int .i64 fa.1.cells, .slice ab2 fa.1.blocks.length cb2] 25)) := (HW.out.alloc (by first | exact Nat.le_refl _ | exact HW.out.size | (simp only [World.size_alloc, World.size_setCell]; have := HW.out.size; omega)) _)
  clear lB1 cB1 fB1
  clear B1 HA HW
  generalize (w2.alloc (.cells #[.slice ap2 fa.1.params.length cp2, .int .i64 fa.1.arrays, .int .i64 fa.1.cells, .slice ab2 fa.1.blocks.length cb2] 25)) = w3 at *
  have B1 := Lib.hid B1_
  clear B1_
  have B2 := Lib.hid B2_
  clear B2_
  have HA := Lib.hid HA_
  clear HA_
  have HW := Lib.hid HW_
  clear HW_
  obtain ⟨lB1, cB1, fB1⟩ := B1.out
  obtain ⟨lB2, cB2, fB2⟩ := B2.out
  go_wp2_with fail
  refine (refPrune (HV.out.below HW.out)).mono ?_
  rintro e w4 ⟨vb, S2, rfl, hO, -, hb⟩
  rw [← HFA.out] at hO ⊢
  have HB := Lib.hid hO.reads
  obtain ⟨ap3, cp3, ab3, cb3, rfl, -, -, -, -⟩ := hO.reads.form
  clear hO
  rw [← HEA.out]
  clear lB1 cB1 fB1 lB2 cB2 fB2
  replace B1 := Lib.hid (B1.out.later hb)
  replace B2 := Lib.hid (B2.out.later hb)
  replace HA := Lib.hid (HA.out.later hb)
  replace HW := Lib.hid (HW.out.trans (hb.mono HW.out.size))
  clear hb
  obtain ⟨lB1, cB1, fB1⟩ := B1.out
  obtain ⟨lB2, cB2, fB2⟩ := B2.out

  go_upto_region 3 with (fail)
  have nB3B1 : w4.heap.size ≠ w.heap.size := fun e => by have := lB1; omega
  have nB1B3 : w.heap.size ≠ w4.heap.size := fun e => nB3B1 e.symm
  have nB3B2 : w4.heap.size ≠ w2.heap.size := fun e => by have := lB2; omega
  have nB2B3 : w2.heap.size ≠ w4.heap.size := fun e => nB3B2 e.symm
  have B1_ : Box (w4.alloc (.cells #[.slice ap3 fa.1.params.length cp3, .int .i64 fa.1.arrays, .int .i64 fa.1.cells, .slice ab3 fa.1.blocks.length cb3] 25)) (w.heap.size) #[.slice ap f.params.length cp, .int .i64 f.arrays, .int .i64 f.cells, .slice ab f.blocks.length cb] := by simpa using (B1.out.alloc _)
  have B2_ : Box (w4.alloc (.cells #[.slice ap3 fa.1.params.length cp3, .int .i64 fa.1.arrays, .int .i64 fa.1.cells, .slice ab3 fa.1.blocks.length cb3] 25)) (w2.heap.size) #[.slice ap2 fa.1.params.length cp2, .int .i64 fa.1.arrays, .int .i64 fa.1.cells, .slice ab2 fa.1.blocks.length cb2] := by simpa using (B2.out.alloc _)
  have B3_ : Box (w4.alloc (.cells #[.slice ap3 fa.1.params.length cp3, .int .i64 fa.1.arrays, .int .i64 fa.1.cells, .slice ab3 fa.1.blocks.length cb3] 25)) (w4.heap.size) #[.slice ap3 fa.1.params.length cp3, .int .i64 fa.1.arrays, .int .i64 fa.1.cells, .slice ab3 fa.1.blocks.length cb3] := by simpa using (Box.new w4 #[.slice ap3 fa.1.params.length cp3, .int .i64 fa.1.arrays, .int .i64 fa.1.cells, .slice ab3 fa.1.blocks.length cb3] 25)
  have HA_ := (HA.out.alloc (.cells #[.slice ap3 fa.1.params.length cp3, .int .i64 fa.1.arrays, .int .i64 fa.1.cells, .slice ab3 fa.1.blocks.length cb3] 25))
  have HB_ := (HB.out.alloc (.cells #[.slice ap3 fa.1.params.length cp3, .int .i64 fa.1.arrays, .int .i64 fa.1.cells, .slice ab3 fa.1.blocks.length cb3] 25))
  have HW_ : Below w.heap.size w (w4.alloc (.cells #[.slice ap3 fa.1.params.length cp3, .int .i64 fa.1.arrays, .int .i64 fa.1.cells, .slice ab3 fa.1.blocks.length cb3] 25)) := (HW.out.alloc (by first | exact Nat.le_refl _ | exact HW.out.size | (simp only [World.size_alloc, World.size_setCell]; have := HW.out.size; omega)) _)
  clear lB1 cB1 fB1 lB2 cB2 fB2
  clear B1 B2 HA HB HW
  generalize (w4.alloc (.cells #[.slice ap3 fa.1.params.length cp3, .int .i64 fa.1.arrays, .int .i64 fa.1.cells, .slice ab3 fa.1.blocks.length cb3] 25)) = w5 at *
  have B1 := Lib.hid B1_
  clear B1_
  have B2 := Lib.hid B2_
  clear B2_
  have B3 := Lib.hid B3_
  clear B3_
  have HA := Lib.hid HA_
  clear HA_
  have HB := Lib.hid HB_
  clear HB_
  have HW := Lib.hid HW_
  clear HW_
  obtain ⟨lB1, cB1, fB1⟩ := B1.out
  obtain ⟨lB2, cB2, fB2⟩ := B2.out
  obtain ⟨lB3, cB3, fB3⟩ := B3.out
  go_wp2_with fail
  refine awake3.mono ?_
  rintro e w6 ⟨rfl, hb⟩
  clear lB1 cB1 fB1 lB2 cB2 fB2 lB3 cB3 fB3
  replace B1 := Lib.hid (B1.out.later hb)
  replace B2 := Lib.hid (B2.out.later hb)
  replace B3 := Lib.hid (B3.out.later hb)
  replace HA := Lib.hid (HA.out.later hb)
  replace HB := Lib.hid (HB.out.later hb)
  replace HW := Lib.hid (HW.out.trans (hb.mono HW.out.size))
  clear hb
  obtain ⟨lB1, cB1, fB1⟩ := B1.out
  obtain ⟨lB2, cB2, fB2⟩ := B2.out
  obtain ⟨lB3, cB3, fB3⟩ := B3.out
  have hee : (ea == ea) = true := by simp
  go_wp2_with fail
  refine (refSame HA.out HB.out).mono ?_
  rintro e w7 ⟨rfl, hb⟩
  rw [show decide (fa.1 = fa.1) = true by simp]
  clear lB1 cB1 fB1 lB2 cB2 fB2 lB3 cB3 fB3
  replace B1 := Lib.hid (B1.out.later hb)
  replace B2 := Lib.hid (B2.out.later hb)
  replace B3 := Lib.hid (B3.out.later hb)
  replace HA := Lib.hid (HA.out.later hb)
  replace HB := Lib.hid (HB.out.later hb)
  replace HW := Lib.hid (HW.out.trans (hb.mono HW.out.size))
  clear hb
  obtain ⟨lB1, cB1, fB1⟩ := B1.out
  obtain ⟨lB2, cB2, fB2⟩ := B2.out
  obtain ⟨lB3, cB3, fB3⟩ := B3.out
  go_wp2
  go_ret
  exact ⟨rfl, HW.out⟩
theorem order_len {f : FuncD} {O : List Nat} (h : IsOrder f O) (hall : ∀ d, d < f.blocks.length → Way (toB f) (-1) d) : O.length = f.blocks.length := by
  obtain ⟨h1, h2, h3, -, -⟩ := h.facts
  have h4 := h.le
  have h5 : (List.range f.blocks.length).length ≤ O.length := by
    refine List.Nodup.length_le_of_subset ?_ ?_
    · exact List.nodup_range
    · intro d hd
      rw [List.mem_range] at hd
      exact (h2 d).2 (hall d hd)
  rw [List.length_range] at h5
  omega
theorem prune_orders {f : FuncD} {O Q : List Nat} (h : IsOrder f O) (hq : IsOrder (prunedF f) Q) (hf : formB f = true) : O.length = Q.length ∧ (prunedF f).blocks.length = O.length := by
  have hQ := order_len hq (pruned_come hf)
  have hl : (prunedF f).blocks.length = numN (comeF f) f.blocks.length := pruned_len f _
  obtain ⟨h1, h2, h3, -, -⟩ := h.facts
  have e : O.length = ((List.range f.blocks.length).filter (comeF f)).length := by
    apply List.Perm.length_eq
    rw [List.perm_ext_iff_of_nodup h1 (List.Pairwise.filter _ List.nodup_range)]
    intro a
    rw [List.mem_filter, List.mem_range, come_iff]
    constructor
    · intro ha; exact ⟨h3 a ha, (h2 a).1 ha⟩
    · intro ha; exact (h2 a).2 ha.2
  unfold numN at hl
  omega
set_option maxHeartbeats 12800000 in
set_option maxRecDepth 100000 in
theorem walkGPruned {w : World} {v : Value} (f : FuncD) (hv : FuncV w v f) :
    Calls Try.prog 4 #[v] w fun e w' => e = .returned (.bool true) ∧ Below w.heap.size w w' := by
  have HV := Lib.hid hv
  obtain ⟨ap, cp, ab, cb, rfl, -, -, -, -⟩ := hv.form
  clear hv
  go_enter Try.func4, Try.ntmps4
  go_upto_region 1 with (fail)
  have B1 : Hid (Box (w.alloc (.cells #[.slice ap f.params.length cp, .int .i64 f.arrays, .int .i64 f.cells, .slice ab f.blocks.length cb] 25)) (w.heap.size) #[.slice ap f.params.length cp, .int .i64 f.arrays, .int .i64 f.cells, .slice ab f.blocks.length cb]) := Lib.hid (by simpa using (Box.new w #[.slice ap f.params.length cp, .int .i64 f.arrays, .int .i64 f.cells, .slice ab f.blocks.length cb] 25))
  have HW : Hid (Below w.heap.size w (w.alloc (.cells #[.slice ap f.params.length cp, .int .i64 f.arrays, .int .i64 f.cells, .slice ab f.blocks.length cb] 25))) := Lib.hid ((Below.refl _ _).alloc (Nat.le_refl _) _)
  generalize (w.alloc (.cells #[.slice ap f.params.length cp, .int .i64 f.arrays, .int .i64 f.cells, .slice ab f.blocks.length cb] 25)) = wv at *
  obtain ⟨lB1, cB1, fB1⟩ := B1.out
  go_wp2_with fail
  refine (graphPrune (HV.out.below HW.out)).mono ?_
  rintro e w2 ⟨va, S, rfl, hO, -, hb⟩
  obtain ⟨⟨fa, ea⟩, hfa⟩ : ∃ fa, fa = pruneF f := ⟨_, rfl⟩
  rw [← hfa] at hO ⊢
  simp only at hO ⊢
  have HFA := Lib.hid hfa
  have HA := Lib.hid hO.reads
  obtain ⟨ap2, cp2, ab2, cb2, rfl, -, -, -, -⟩ := hO.reads.form
  obtain ⟨na, hna⟩ : ∃ na, na = fa.blocks.length := ⟨_, rfl⟩
  rw [← hna] at HA ⊢
  have HNA := Lib.hid hna
  clear hO hfa hna
  clear lB1 cB1 fB1
  replace B1 := Lib.hid (B1.out.later hb)
  replace HW := Lib.hid (HW.out.trans (hb.mono HW.out.size))
  clear hb
  obtain ⟨lB1, cB1, fB1⟩ := B1.out

  go_upto_region 2 with (fail)
  have nB2B1 : w2.heap.size ≠ w.heap.size := fun e => by have := lB1; omega
  have nB1B2 : w.heap.size ≠ w2.heap.size := fun e => nB2B1 e.symm
  have B1_ : Box (w2.alloc (.cells #[.slice ap2 fa.params.length cp2, .int .i64 fa.arrays, .int .i64 fa.cells, .slice ab2 na cb2] 25)) (w.heap.size) #[.slice ap f.params.length cp, .int .i64 f.arrays, .int .i64 f.cells, .slice ab f.blocks.length cb] := by simpa using (B1.out.alloc _)
  have B2_ : Box (w2.alloc (.cells #[.slice ap2 fa.params.length cp2, .int .i64 fa.arrays, .int .i64 fa.cells, .slice ab2 na cb2] 25)) (w2.heap.size) #[.slice ap2 fa.params.length cp2, .int .i64 fa.arrays, .int .i64 fa.cells, .slice ab2 na cb2] := by simpa using (Box.new w2 #[.slice ap2 fa.params.length cp2, .int .i64 fa.arrays, .int .i64 fa.cells, .slice ab2 na cb2] 25)
  have HA_ := (HA.out.alloc (.cells #[.slice ap2 fa.params.length cp2, .int .i64 fa.arrays, .int .i64 fa.cells, .slice ab2 na cb2] 25))
  have HW_ : Below w.heap.size w (w2.alloc (.cells #[.slice ap2 fa.params.length cp2, .int .i64 fa.arrays, .int .i64 fa.cells, .slice ab2 na cb2] 25)) := (HW.out.alloc (by first | exact Nat.le_refl _ | exact HW.out.size | (simp only [World.size_alloc, World.size_setCell]; have := HW.out.size; omega)) _)
  clear lB1 cB1 fB1
  clear B1 HA HW
  generalize (w2.alloc (.cells #[.slice ap2 fa.params.length cp2, .int .i64 fa.arrays, .int .i64 fa.cells, .slice ab2 na cb2] 25)) = w3 at *
  have B1 := Lib.hid B1_
  clear B1_
  have B2 := Lib.hid B2_
  clear B2_
  have HA := Lib.hid HA_
  clear HA_
  have HW := Lib.hid HW_
  clear HW_
  obtain ⟨lB1, cB1, fB1⟩ := B1.out
  obtain ⟨lB2, cB2, fB2⟩ := B2.out
  go_wp2_with fail
  refine awake3.mono ?_
  rintro e w4 ⟨rfl, hb⟩
  clear lB1 cB1 fB1 lB2 cB2 fB2
  replace B1 := Lib.hid (B1.out.later hb)
  replace B2 := Lib.hid (B2.out.later hb)
  replace HA := Lib.hid (HA.out.later hb)
  replace HW := Lib.hid (HW.out.trans (hb.mono HW.out.size))
  clear hb
  obtain ⟨lB1, cB1, fB1⟩ := B1.out
  obtain ⟨lB2, cB2, fB2⟩ := B2.out
  cases he1 : (ea != 0)
  rotate_left
  · go_wp2_with fail
    refine awake3.mono ?_
    rintro e w5 ⟨rfl, hb⟩
    clear lB1 cB1 fB1 lB2 cB2 fB2
    replace B1 := Lib.hid (B1.out.later hb)
    replace B2 := Lib.hid (B2.out.later hb)
    replace HA := Lib.hid (HA.out.later hb)
    replace HW := Lib.hid (HW.out.trans (hb.mono HW.out.size))
    clear hb
    obtain ⟨lB1, cB1, fB1⟩ := B1.out
    obtain ⟨lB2, cB2, fB2⟩ := B2.out
    go_wp2
    go_ret
    exact ⟨rfl, HW.out⟩
  obtain rfl : ea = 0 := by simpa using he1
  obtain ⟨t1, t2, t3, t4, t5⟩ := prune_twice (f := f) (by rw [← HFA.out])
  have hfe : fa = prunedF f := by
    have h9 := HFA.out
    rw [t3] at h9
    exact congrArg Prod.fst h9
  have HC := Lib.hid t1
  have HFE := Lib.hid hfe
  have HC2 : Hid (checkF fa = 0) := Lib.hid (by rw [hfe]; exact t2)
  have HT4 : Hid (pruneF fa = (fa, 0)) := Lib.hid (by rw [hfe]; exact t4)
  clear t1 t2 t3 t4 t5 hfe he1 HFA
  go_wp2_with fail
  refine (graphPrune HA.out).mono ?_
  rintro e w5 ⟨vb, S2, rfl, hO, -, hb⟩
  rw [HT4.out] at hO ⊢
  simp only at hO ⊢
  have HB := Lib.hid hO.reads
  obtain ⟨ap3, cp3, ab3, cb3, rfl, -, -, -, -⟩ := hO.reads.form
  rw [← HNA.out] at HB ⊢
  clear hO
  clear lB1 cB1 fB1 lB2 cB2 fB2
  replace B1 := Lib.hid (B1.out.later hb)
  replace B2 := Lib.hid (B2.out.later hb)
  replace HA := Lib.hid (HA.out.later hb)
  replace HW := Lib.hid (HW.out.trans (hb.mono HW.out.size))
  clear hb
  obtain ⟨lB1, cB1, fB1⟩ := B1.out
  obtain ⟨lB2, cB2, fB2⟩ := B2.out

  go_upto_region 6 with (fail)
  have nB3B1 : w5.heap.size ≠ w.heap.size := fun e => by have := lB1; omega
  have nB1B3 : w.heap.size ≠ w5.heap.size := fun e => nB3B1 e.symm
  have nB3B2 : w5.heap.size ≠ w2.heap.size := fun e => by have := lB2; omega
  have nB2B3 : w2.heap.size ≠ w5.heap.size := fun e => nB3B2 e.symm
  have B1_ : Box (w5.alloc (.cells #[.slice ap3 fa.params.length cp3, .int .i64 fa.arrays, .int .i64 fa.cells, .slice ab3 na cb3] 25)) (w.heap.size) #[.slice ap f.params.length cp, .int .i64 f.arrays, .int .i64 f.cells, .slice ab f.blocks.length cb] := by simpa using (B1.out.alloc _)
  have B2_ : Box (w5.alloc (.cells #[.slice ap3 fa.params.length cp3, .int .i64 fa.arrays, .int .i64 fa.cells, .slice ab3 na cb3] 25)) (w2.heap.size) #[.slice ap2 fa.params.length cp2, .int .i64 fa.arrays, .int .i64 fa.cells, .slice ab2 na cb2] := by simpa using (B2.out.alloc _)
  have B3_ : Box (w5.alloc (.cells #[.slice ap3 fa.params.length cp3, .int .i64 fa.arrays, .int .i64 fa.cells, .slice ab3 na cb3] 25)) (w5.heap.size) #[.slice ap3 fa.params.length cp3, .int .i64 fa.arrays, .int .i64 fa.cells, .slice ab3 na cb3] := by simpa using (Box.new w5 #[.slice ap3 fa.params.length cp3, .int .i64 fa.arrays, .int .i64 fa.cells, .slice ab3 na cb3] 25)
  have HA_ := (HA.out.alloc (.cells #[.slice ap3 fa.params.length cp3, .int .i64 fa.arrays, .int .i64 fa.cells, .slice ab3 na cb3] 25))
  have HB_ := (HB.out.alloc (.cells #[.slice ap3 fa.params.length cp3, .int .i64 fa.arrays, .int .i64 fa.cells, .slice ab3 na cb3] 25))
  have HW_ : Below w.heap.size w (w5.alloc (.cells #[.slice ap3 fa.params.length cp3, .int .i64 fa.arrays, .int .i64 fa.cells, .slice ab3 na cb3] 25)) := (HW.out.alloc (by first | exact Nat.le_refl _ | exact HW.out.size | (simp only [World.size_alloc, World.size_setCell]; have := HW.out.size; omega)) _)
  clear lB1 cB1 fB1 lB2 cB2 fB2
  clear B1 B2 HA HB HW
  generalize (w5.alloc (.cells #[.slice ap3 fa.params.length cp3, .int .i64 fa.arrays, .int .i64 fa.cells, .slice ab3 na cb3] 25)) = w6 at *
  have B1 := Lib.hid B1_
  clear B1_
  have B2 := Lib.hid B2_
  clear B2_
  have B3 := Lib.hid B3_
  clear B3_
  have HA := Lib.hid HA_
  clear HA_
  have HB := Lib.hid HB_
  clear HB_
  have HW := Lib.hid HW_
  clear HW_
  obtain ⟨lB1, cB1, fB1⟩ := B1.out
  obtain ⟨lB2, cB2, fB2⟩ := B2.out
  obtain ⟨lB3, cB3, fB3⟩ := B3.out
  go_wp2_with fail
  refine (graphOrder (HV.out.below HW.out)).mono ?_
  rintro e w7 ⟨ov, L, rfl, hL, hL0, -, hb⟩
  obtain ⟨O, hO, hLO⟩ := hL0 HC.out
  rw [HC.out]
  obtain ⟨oa, oc, rfl⟩ := hL.form
  obtain ⟨ol, hol⟩ : ∃ ol, ol = L.length := ⟨_, rfl⟩
  rw [← hol]
  have hO1 : ol = O.length := by rw [hol, hLO]; simp [natI]
  have HO := Lib.hid hO
  have HO1 := Lib.hid hO1
  clear hL hL0 hO hLO hol hO1
  clear lB1 cB1 fB1 lB2 cB2 fB2 lB3 cB3 fB3
  replace B1 := Lib.hid (B1.out.later hb)
  replace B2 := Lib.hid (B2.out.later hb)
  replace B3 := Lib.hid (B3.out.later hb)
  replace HA := Lib.hid (HA.out.later hb)
  replace HB := Lib.hid (HB.out.later hb)
  replace HW := Lib.hid (HW.out.trans (hb.mono HW.out.size))
  clear hb
  obtain ⟨lB1, cB1, fB1⟩ := B1.out
  obtain ⟨lB2, cB2, fB2⟩ := B2.out
  obtain ⟨lB3, cB3, fB3⟩ := B3.out
  go_wp2_with fail
  refine (graphOrder HA.out).mono ?_
  rintro e w8 ⟨qv, M, rfl, hL, hL0, -, hb⟩
  obtain ⟨Q, hQ, hLQ⟩ := hL0 HC2.out
  rw [HC2.out]
  obtain ⟨qa, qc, rfl⟩ := hL.form
  obtain ⟨ql, hql⟩ : ∃ ql, ql = M.length := ⟨_, rfl⟩
  rw [← hql]
  have hQ1 : ql = Q.length := by rw [hql, hLQ]; simp [natI]
  have hpo := prune_orders HO.out (by rw [← HFE.out]; exact hQ) (check_fine HC.out).1
  rw [← HFE.out, ← HNA.out, ← HO1.out, ← hQ1] at hpo
  obtain ⟨rfl, rfl⟩ := hpo
  clear hL hL0 hQ hLQ hql hQ1
  clear lB1 cB1 fB1 lB2 cB2 fB2 lB3 cB3 fB3
  replace B1 := Lib.hid (B1.out.later hb)
  replace B2 := Lib.hid (B2.out.later hb)
  replace B3 := Lib.hid (B3.out.later hb)
  replace HA := Lib.hid (HA.out.later hb)
  replace HB := Lib.hid (HB.out.later hb)
  replace HW := Lib.hid (HW.out.trans (hb.mono HW.out.size))
  clear hb
  obtain ⟨lB1, cB1, fB1⟩ := B1.out
  obtain ⟨lB2, cB2, fB2⟩ := B2.out
  obtain ⟨lB3, cB3, fB3⟩ := B3.out
  have hee : ((0 : Int) == 0) = true := by simp
  go_wp2_with fail
  refine (refSame HA.out HB.out).mono ?_
  rintro e w9 ⟨rfl, hb⟩
  rw [show decide (fa = fa) = true by simp]
  clear lB1 cB1 fB1 lB2 cB2 fB2 lB3 cB3 fB3
  replace B1 := Lib.hid (B1.out.later hb)
  replace B2 := Lib.hid (B2.out.later hb)
  replace B3 := Lib.hid (B3.out.later hb)
  replace HA := Lib.hid (HA.out.later hb)
  replace HB := Lib.hid (HB.out.later hb)
  replace HW := Lib.hid (HW.out.trans (hb.mono HW.out.size))
  clear hb
  obtain ⟨lB1, cB1, fB1⟩ := B1.out
  obtain ⟨lB2, cB2, fB2⟩ := B2.out
  obtain ⟨lB3, cB3, fB3⟩ := B3.out
  go_wp2
  go_ret
  exact ⟨rfl, HW.out⟩
end Go.Proofs.Ytblgdccoeecodaa
