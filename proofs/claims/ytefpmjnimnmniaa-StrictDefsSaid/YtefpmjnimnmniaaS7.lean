/- StrictDefs: the law. -/
import Derived.Test.YtefpmjnimnmniaaS6
namespace Go.Proofs.Ytefpmjnimnmniaa
set_option linter.unusedSimpArgs false
set_option linter.unusedVariables false
open Go.RowKit

/-- The function that is nothing. -/
def nothing : FuncD := ⟨[], 0, 0, []⟩
theorem nothing_val {W : World} : FuncV W (.agg #[.slice none 0 0, .int .i64 0, .int .i64 0, .slice none 0 0]) nothing :=
  ⟨_, _, rfl, ints_nil, ⟨by decide, by decide⟩, ⟨by decide, by decide⟩, ⟨[], Row.nil, fun j x hj => by simp [nothing] at hj⟩⟩
theorem nothing_bad : checkF nothing = 2 := by decide
set_option maxHeartbeats 6400000 in
theorem awake5 {w : World} : Calls Try.prog 61 #[] w fun e w' => e = .returned (.bool true) ∧ Below w.heap.size w w' := by
  go_enter Try.func61, Try.ntmps61
  go_wp2_with fail
  have B0 : Hid (Box ((w.alloc (.cells #[.int .i64 1, .int .i64 0, .slice none 0 0, .int .i64 5] 84)).alloc (.cells #[.slice none 0 0, .slice (some ⟨w.heap.size, 0, none⟩) 1 1, .int .i64 3, .int .i64 0, .slice none 0 0, .int .i64 0] 57)) (w.heap.size) #[.int .i64 1, .int .i64 0, .slice none 0 0, .int .i64 5]) := Lib.hid (by simpa using ((Box.new w #[.int .i64 1, .int .i64 0, .slice none 0 0, .int .i64 5] 84).alloc _))
  have B1 : Hid (Box ((w.alloc (.cells #[.int .i64 1, .int .i64 0, .slice none 0 0, .int .i64 5] 84)).alloc (.cells #[.slice none 0 0, .slice (some ⟨w.heap.size, 0, none⟩) 1 1, .int .i64 3, .int .i64 0, .slice none 0 0, .int .i64 0] 57)) (w.heap.size + 1) #[.slice none 0 0, .slice (some ⟨w.heap.size, 0, none⟩) 1 1, .int .i64 3, .int .i64 0, .slice none 0 0, .int .i64 0]) := Lib.hid (by simpa using (Box.new (w.alloc (.cells #[.int .i64 1, .int .i64 0, .slice none 0 0, .int .i64 5] 84)) #[.slice none 0 0, .slice (some ⟨w.heap.size, 0, none⟩) 1 1, .int .i64 3, .int .i64 0, .slice none 0 0, .int .i64 0] 57))
  have HW : Hid (Below w.heap.size w ((w.alloc (.cells #[.int .i64 1, .int .i64 0, .slice none 0 0, .int .i64 5] 84)).alloc (.cells #[.slice none 0 0, .slice (some ⟨w.heap.size, 0, none⟩) 1 1, .int .i64 3, .int .i64 0, .slice none 0 0, .int .i64 0] 57))) := Lib.hid (((Below.refl _ _).alloc (Nat.le_refl _) _).alloc (by simp) _)
  generalize ((w.alloc (.cells #[.int .i64 1, .int .i64 0, .slice none 0 0, .int .i64 5] 84)).alloc (.cells #[.slice none 0 0, .slice (some ⟨w.heap.size, 0, none⟩) 1 1, .int .i64 3, .int .i64 0, .slice none 0 0, .int .i64 0] 57)) = wv at *
  obtain ⟨lB0, cB0, fB0⟩ := B0.out
  obtain ⟨lB1, cB1, fB1⟩ := B1.out
  refine (checkS B0.out B1.out).mono ?_
  rintro e w2 ⟨rfl, hb⟩
  clear lB0 cB0 fB0 lB1 cB1 fB1
  replace B0 := Lib.hid (B0.out.later hb)
  replace B1 := Lib.hid (B1.out.later hb)
  replace HW := Lib.hid (HW.out.trans (hb.mono HW.out.size))
  clear hb
  obtain ⟨lB0, cB0, fB0⟩ := B0.out
  obtain ⟨lB1, cB1, fB1⟩ := B1.out
  clear lB0 cB0 fB0 lB1 cB1 fB1
  go_wp2_with fail
  have hbA1 := (Below.refl w2.heap.size w2).alloc (Nat.le_refl _) (.cells #[.int .i64 1, .int .i64 0, .slice none 0 0, .int .i64 5] 84)
  have hbA := hbA1.trans (((Below.refl _ _).alloc (Nat.le_refl _) (.cells #[.slice none 0 0, .slice (some ⟨w2.heap.size, 0, none⟩) 1 1, .int .i64 3, .int .i64 0, .slice none 0 0, .int .i64 0] 57)).mono hbA1.size)
  have HV2 := simplest_val ((Box.new w2 #[.int .i64 1, .int .i64 0, .slice none 0 0, .int .i64 5] 84).alloc (.cells #[.slice none 0 0, .slice (some ⟨w2.heap.size, 0, none⟩) 1 1, .int .i64 3, .int .i64 0, .slice none 0 0, .int .i64 0] 57)) (Box.new _ _ _)
  simp only [World.size_alloc] at HV2
  refine (defOf (id := 0) HV2).mono ?_
  rintro e w3 ⟨b, at_, g, rfl, -, hr, -, hb⟩
  obtain ⟨rfl, rfl, rfl⟩ := hr simplest_ok.1 (0, 0, 0) (by rw [entF_simplest]; rfl)
  have hb2 := hbA.trans (hb.mono hbA.size)
  replace HW := Lib.hid (HW.out.trans (hb2.mono HW.out.size))
  clear hr hb hbA hbA1 HV2 hb2
  go_wp2_with fail
  refine (defOf (id := 0) nothing_val).mono ?_
  rintro e w4 ⟨b, at_, g, rfl, hr, -, -, hb⟩
  obtain ⟨rfl, rfl, rfl⟩ := hr (by rw [nothing_bad]; decide)
  rw [nothing_bad]
  replace HW := Lib.hid (HW.out.trans (hb.mono HW.out.size))
  clear hr hb
  go_wp2
  go_ret
  exact ⟨rfl, HW.out⟩
set_option maxHeartbeats 6400000 in
set_option maxRecDepth 100000 in
theorem walkDefs {w : World} {v : Value} (f : FuncD) {id : Int} (hv : FuncV w v f) (h64 : In64 id) :
    Calls Try.prog 20 #[v, .int .i64 id] w fun e w' => e = .returned (.bool true) ∧ Below w.heap.size w w' := by
  have HV := Lib.hid hv
  obtain ⟨ap, cp, ab, cb, rfl, hp, -, -, hB⟩ := hv.form
  clear hp hB hv h64
  go_enter Try.func20, Try.ntmps20
  go_upto_region 1 with (fail)
  have B1 : Hid (Box (w.alloc (.cells #[.slice ap f.params.length cp, .int .i64 f.arrays, .int .i64 f.cells, .slice ab f.blocks.length cb] 30)) (w.heap.size) #[.slice ap f.params.length cp, .int .i64 f.arrays, .int .i64 f.cells, .slice ab f.blocks.length cb]) := Lib.hid (by simpa using (Box.new w #[.slice ap f.params.length cp, .int .i64 f.arrays, .int .i64 f.cells, .slice ab f.blocks.length cb] 30))
  have HW : Hid (Below w.heap.size w (w.alloc (.cells #[.slice ap f.params.length cp, .int .i64 f.arrays, .int .i64 f.cells, .slice ab f.blocks.length cb] 30))) := Lib.hid ((Below.refl _ _).alloc (Nat.le_refl _) _)
  generalize (w.alloc (.cells #[.slice ap f.params.length cp, .int .i64 f.arrays, .int .i64 f.cells, .slice ab f.blocks.length cb] 30)) = wv at *
  obtain ⟨lB1, cB1, fB1⟩ := B1.out
  go_wp2_with fail
  refine (defOf (id := id) (HV.out.below HW.out)).mono ?_
  rintro e w2 ⟨b, at_, g, rfl, h1, h2, h3, hb⟩
  have H1 := Lib.hid h1
  have H2 := Lib.hid h2
  have H3 := Lib.hid h3
  clear h1 h2 h3
  clear lB1 cB1 fB1
  replace B1 := Lib.hid (B1.out.later hb)
  replace HW := Lib.hid (HW.out.trans (hb.mono HW.out.size))
  clear hb
  obtain ⟨lB1, cB1, fB1⟩ := B1.out
  go_wp2_with fail
  refine (refCheck (HV.out.below HW.out)).mono ?_
  rintro e w3 ⟨rfl, hb⟩
  clear lB1 cB1 fB1
  replace B1 := Lib.hid (B1.out.later hb)
  replace HW := Lib.hid (HW.out.trans (hb.mono HW.out.size))
  clear hb
  obtain ⟨lB1, cB1, fB1⟩ := B1.out
  go_wp2_with fail
  refine awake5.mono ?_
  rintro e w4 ⟨rfl, hb⟩
  clear lB1 cB1 fB1
  replace B1 := Lib.hid (B1.out.later hb)
  replace HW := Lib.hid (HW.out.trans (hb.mono HW.out.size))
  clear hb
  obtain ⟨lB1, cB1, fB1⟩ := B1.out
  by_cases hc0 : checkF f = 0
  · have HC0 := Lib.hid hc0
    have hc1 : (checkF f != 0) = false := by simpa using hc0
    clear hc0
    go_wp2_with fail
    refine (refDef (id := id) (HV.out.below HW.out)).mono ?_
    rintro e w5 ⟨c, to, ok, rfl, hd, hb⟩
    rcases hd with ⟨e, he, rfl, rfl, rfl⟩ | ⟨he, rfl, rfl, rfl⟩
    · obtain ⟨rfl, rfl, rfl⟩ := H2.out HC0.out e he
      have q1 : (e.2.1 == e.2.1) = true := by simp
      have q2 : (e.2.2 == e.2.2) = true := by simp
      clear he
      clear lB1 cB1 fB1
      replace B1 := Lib.hid (B1.out.later hb)
      replace HW := Lib.hid (HW.out.trans (hb.mono HW.out.size))
      clear hb
      obtain ⟨lB1, cB1, fB1⟩ := B1.out
      go_wp2
      go_ret
      exact ⟨rfl, HW.out⟩
    · obtain ⟨rfl, rfl, rfl⟩ := H3.out HC0.out he
      clear he
      clear lB1 cB1 fB1
      replace B1 := Lib.hid (B1.out.later hb)
      replace HW := Lib.hid (HW.out.trans (hb.mono HW.out.size))
      clear hb
      obtain ⟨lB1, cB1, fB1⟩ := B1.out
      go_wp2
      go_ret
      exact ⟨rfl, HW.out⟩
  · obtain ⟨rfl, rfl, rfl⟩ := H1.out hc0
    have hc1 : (checkF f != 0) = true := by simpa using hc0
    have hcc : (checkF f == checkF f) = true := by simp
    clear hc0
    go_wp2
    go_ret
    exact ⟨rfl, HW.out⟩
end Go.Proofs.Ytefpmjnimnmniaa
