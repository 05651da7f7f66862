/- What the claim needs, part 22. -/
import Derived.Test.YtefpmjnimnmniaaG21
namespace Go.Proofs.Ytefpmjnimnmniaa
set_option linter.unusedSimpArgs false
set_option linter.unusedVariables false
open Go.RowKit
set_option maxHeartbeats 1600000 in
theorem irCheck {w : World} {v : Value} {f : FuncD} (hv : FuncV w v f) : Calls Try.prog 66 #[v] w fun e w' => e = .returned (.int .i64 (checkF f)) ∧ Below w.heap.size w w' := by
  have HV := Lib.hid hv
  obtain ⟨a, b, rfl, hp, ha, hc, hB⟩ := hv
  obtain ⟨ap, cp, rfl⟩ := hp.form
  obtain ⟨ab, cb, rfl⟩ := hB.form
  clear hp ha hc hB
  go_enter Try.func66, Try.ntmps66
  go_upto_region 1 with (fail)
  have B1 : Hid (Box (w.alloc (.cells #[.slice ap f.params.length cp, .int .i64 f.arrays, .int .i64 f.cells, .slice ab f.blocks.length cb] 30)) (w.heap.size) #[.slice ap f.params.length cp, .int .i64 f.arrays, .int .i64 f.cells, .slice ab f.blocks.length cb]) := Lib.hid (by simpa using (Box.new w #[.slice ap f.params.length cp, .int .i64 f.arrays, .int .i64 f.cells, .slice ab f.blocks.length cb] 30))
  have HW : Hid (Below w.heap.size w (w.alloc (.cells #[.slice ap f.params.length cp, .int .i64 f.arrays, .int .i64 f.cells, .slice ab f.blocks.length cb] 30))) := Lib.hid ((Below.refl _ _).alloc (Nat.le_refl _) _)
  generalize (w.alloc (.cells #[.slice ap f.params.length cp, .int .i64 f.arrays, .int .i64 f.cells, .slice ab f.blocks.length cb] 30)) = wv at *
  obtain ⟨lB1, cB1, fB1⟩ := B1.out
  go_wp2_with fail
  refine (irOpen (HV.out.below HW.out)).mono ?_
  rintro e w2 ⟨hb, m, rfl, _, _⟩
  have HB := Lib.hid (HW.out.trans (hb.mono HW.out.size))
  clear hb
  go_wp2
  go_ret
  exact ⟨rfl, HB.out⟩
def sizeA (f : FuncD) : Int := if checkF f = 0 then sizeF f else 0
set_option maxHeartbeats 3200000 in
theorem irSize {w : World} {v : Value} {f : FuncD} (hv : FuncV w v f) : Calls Try.prog 52 #[v] w fun e w' => e = .returned (.tuple #[.int .i64 (sizeA f), .int .i64 (checkF f)]) ∧ Below w.heap.size w w' := by
  have HV := Lib.hid hv
  obtain ⟨a, b, rfl, hp, ha, hc, hB⟩ := hv
  obtain ⟨ap, cp, rfl⟩ := hp.form
  obtain ⟨ab, cb, rfl⟩ := hB.form
  have HBB := Lib.hid hB
  have HLN : Hid (checkF f = 0 → f.blocks.length ≤ 512) := Lib.hid (fun h => by
    unfold checkF at h
    split at h
    · rename_i h2
      simp only [Bool.and_eq_true] at h2
      have h3 := h2.1
      unfold formB headOk at h3
      simp only [Bool.and_eq_true, decide_eq_true_eq] at h3
      exact h3.1.1.1.2
    · cases h)
  clear hp ha hc hB
  go_enter Try.func52, Try.ntmps52
  go_upto_region 1 with (fail)
  have B1 : Hid (Box (w.alloc (.cells #[.slice ap f.params.length cp, .int .i64 f.arrays, .int .i64 f.cells, .slice ab f.blocks.length cb] 30)) (w.heap.size) #[.slice ap f.params.length cp, .int .i64 f.arrays, .int .i64 f.cells, .slice ab f.blocks.length cb]) := Lib.hid (by simpa using (Box.new w #[.slice ap f.params.length cp, .int .i64 f.arrays, .int .i64 f.cells, .slice ab f.blocks.length cb] 30))
  have HW : Hid (Below w.heap.size w (w.alloc (.cells #[.slice ap f.params.length cp, .int .i64 f.arrays, .int .i64 f.cells, .slice ab f.blocks.length cb] 30))) := Lib.hid ((Below.refl _ _).alloc (Nat.le_refl _) _)
  generalize (w.alloc (.cells #[.slice ap f.params.length cp, .int .i64 f.arrays, .int .i64 f.cells, .slice ab f.blocks.length cb] 30)) = wv at *
  obtain ⟨lB1, cB1, fB1⟩ := B1.out
  go_wp2_with fail
  refine (irCheck (HV.out.below HW.out)).mono ?_
  rintro e w2 ⟨rfl, hb⟩
  clear lB1 cB1 fB1
  replace B1 := Lib.hid (B1.out.later hb)
  replace HW := Lib.hid (HW.out.trans (hb.mono HW.out.size))
  clear hb
  obtain ⟨lB1, cB1, fB1⟩ := B1.out
  cases hc0 : (checkF f == 0)
  · have hc1 : (checkF f != 0) = true := by simp [bne, hc0]
    have HC0 := Lib.hid hc0
    go_wp2
    go_ret2
    exact ⟨by rw [show sizeA f = 0 from if_neg (by simpa using HC0.out)]; rfl, HW.out⟩
  · have hc1 : (checkF f != 0) = false := by simp [bne, hc0]
    have HC0 := Lib.hid hc0
    have HC1 : Hid (checkF f = 0) := Lib.hid (by simpa using HC0.out)
    go_wp2_with fail
    have hA := (Below.refl w2.heap.size w2).alloc (Nat.le_refl _) (.cells #[.slice ap f.params.length cp, .int .i64 f.arrays, .int .i64 f.cells, .slice ab f.blocks.length cb, .map none] 130)
    refine (chkSize (bs := f.blocks) (vb := .slice ab f.blocks.length cb) ((Box.new w2 _ _).at 3 rfl) (HBB.out.below BlockR.lasting (HW.out.trans (hA.mono HW.out.size))) (HLN.out HC1.out)).mono ?_
    rintro e w3 ⟨rfl, hb3⟩
    have HB3 := Lib.hid (HW.out.trans ((hA.trans (hb3.mono hA.size)).mono HW.out.size))
    clear hA hb3
    go_wp2
    go_ret2
    exact ⟨by rw [show sizeA f = sizeF f from if_pos HC1.out, HC1.out]; rfl, HB3.out⟩
end Go.Proofs.Ytefpmjnimnmniaa
namespace Go.Proofs.Ytefpmjnimnmniaa
set_option linter.unusedSimpArgs false
set_option linter.unusedVariables false
open Go.RowKit
def strA (l : List Int) : ByteArray := ⟨(l.map fun t => if t = 1 then (73 : UInt8) else 66).toArray⟩
def RefShapeR (op : Int) (w : World) (e : Ending) (w' : World) : Prop := e = .returned (.tuple #[.string (strA (shp0 op).args), .int .i64 (shp0 op).result, .int .i64 (shp0 op).n, .bool (shp op).isSome]) ∧ w = w'
theorem refShape1 {w : World} : Calls Try.prog 65 #[.int .i64 1] w (RefShapeR 1 w) := by
  go_enter Try.func65, Try.ntmps65
  go_wp2
  exact bodyPost_ret (v := .tuple #[.string ⟨#[]⟩, .int .i64 1, .int .i64 1, .bool true]) (by simp [results, Try.results65, go_sem, *]) rfl ⟨rfl, rfl⟩
theorem refShape2 {w : World} : Calls Try.prog 65 #[.int .i64 2] w (RefShapeR 2 w) := by
  go_enter Try.func65, Try.ntmps65
  go_wp2
  exact bodyPost_ret (v := .tuple #[.string ⟨#[]⟩, .int .i64 2, .int .i64 2, .bool true]) (by simp [results, Try.results65, go_sem, *]) rfl ⟨rfl, rfl⟩
theorem refShape3 {w : World} : Calls Try.prog 65 #[.int .i64 3] w (RefShapeR 3 w) := by
  go_enter Try.func65, Try.ntmps65
  go_wp2
  exact bodyPost_ret (v := .tuple #[.string ⟨#[73, 73]⟩, .int .i64 1, .int .i64 0, .bool true]) (by simp [results, Try.results65, go_sem, *]) rfl ⟨rfl, rfl⟩
theorem refShape4 {w : World} : Calls Try.prog 65 #[.int .i64 4] w (RefShapeR 4 w) := by
  go_enter Try.func65, Try.ntmps65
  go_wp2
  exact bodyPost_ret (v := .tuple #[.string ⟨#[73, 73]⟩, .int .i64 1, .int .i64 0, .bool true]) (by simp [results, Try.results65, go_sem, *]) rfl ⟨rfl, rfl⟩
theorem refShape5 {w : World} : Calls Try.prog 65 #[.int .i64 5] w (RefShapeR 5 w) := by
  go_enter Try.func65, Try.ntmps65
  go_wp2
  exact bodyPost_ret (v := .tuple #[.string ⟨#[73, 73]⟩, .int .i64 1, .int .i64 0, .bool true]) (by simp [results, Try.results65, go_sem, *]) rfl ⟨rfl, rfl⟩
theorem refShape6 {w : World} : Calls Try.prog 65 #[.int .i64 6] w (RefShapeR 6 w) := by
  go_enter Try.func65, Try.ntmps65
  go_wp2
  exact bodyPost_ret (v := .tuple #[.string ⟨#[73, 73]⟩, .int .i64 1, .int .i64 0, .bool true]) (by simp [results, Try.results65, go_sem, *]) rfl ⟨rfl, rfl⟩
theorem refShape7 {w : World} : Calls Try.prog 65 #[.int .i64 7] w (RefShapeR 7 w) := by
  go_enter Try.func65, Try.ntmps65
  go_wp2
  exact bodyPost_ret (v := .tuple #[.string ⟨#[73, 73]⟩, .int .i64 1, .int .i64 0, .bool true]) (by simp [results, Try.results65, go_sem, *]) rfl ⟨rfl, rfl⟩
theorem refShape8 {w : World} : Calls Try.prog 65 #[.int .i64 8] w (RefShapeR 8 w) := by
  go_enter Try.func65, Try.ntmps65
  go_wp2
  exact bodyPost_ret (v := .tuple #[.string ⟨#[73, 73]⟩, .int .i64 1, .int .i64 0, .bool true]) (by simp [results, Try.results65, go_sem, *]) rfl ⟨rfl, rfl⟩
theorem refShape9 {w : World} : Calls Try.prog 65 #[.int .i64 9] w (RefShapeR 9 w) := by
  go_enter Try.func65, Try.ntmps65
  go_wp2
  exact bodyPost_ret (v := .tuple #[.string ⟨#[73, 73]⟩, .int .i64 1, .int .i64 0, .bool true]) (by simp [results, Try.results65, go_sem, *]) rfl ⟨rfl, rfl⟩
theorem refShape10 {w : World} : Calls Try.prog 65 #[.int .i64 10] w (RefShapeR 10 w) := by
  go_enter Try.func65, Try.ntmps65
  go_wp2
  exact bodyPost_ret (v := .tuple #[.string ⟨#[73, 73]⟩, .int .i64 1, .int .i64 0, .bool true]) (by simp [results, Try.results65, go_sem, *]) rfl ⟨rfl, rfl⟩
theorem refShape11 {w : World} : Calls Try.prog 65 #[.int .i64 11] w (RefShapeR 11 w) := by
  go_enter Try.func65, Try.ntmps65
  go_wp2
  exact bodyPost_ret (v := .tuple #[.string ⟨#[73, 73]⟩, .int .i64 1, .int .i64 0, .bool true]) (by simp [results, Try.results65, go_sem, *]) rfl ⟨rfl, rfl⟩
theorem refShape12 {w : World} : Calls Try.prog 65 #[.int .i64 12] w (RefShapeR 12 w) := by
  go_enter Try.func65, Try.ntmps65
  go_wp2
  exact bodyPost_ret (v := .tuple #[.string ⟨#[73, 73]⟩, .int .i64 1, .int .i64 0, .bool true]) (by simp [results, Try.results65, go_sem, *]) rfl ⟨rfl, rfl⟩
theorem refShape13 {w : World} : Calls Try.prog 65 #[.int .i64 13] w (RefShapeR 13 w) := by
  go_enter Try.func65, Try.ntmps65
  go_wp2
  exact bodyPost_ret (v := .tuple #[.string ⟨#[73, 73]⟩, .int .i64 2, .int .i64 0, .bool true]) (by simp [results, Try.results65, go_sem, *]) rfl ⟨rfl, rfl⟩
theorem refShape14 {w : World} : Calls Try.prog 65 #[.int .i64 14] w (RefShapeR 14 w) := by
  go_enter Try.func65, Try.ntmps65
  go_wp2
  exact bodyPost_ret (v := .tuple #[.string ⟨#[73, 73]⟩, .int .i64 2, .int .i64 0, .bool true]) (by simp [results, Try.results65, go_sem, *]) rfl ⟨rfl, rfl⟩
theorem refShape15 {w : World} : Calls Try.prog 65 #[.int .i64 15] w (RefShapeR 15 w) := by
  go_enter Try.func65, Try.ntmps65
  go_wp2
  exact bodyPost_ret (v := .tuple #[.string ⟨#[73, 73]⟩, .int .i64 2, .int .i64 0, .bool true]) (by simp [results, Try.results65, go_sem, *]) rfl ⟨rfl, rfl⟩
theorem refShape16 {w : World} : Calls Try.prog 65 #[.int .i64 16] w (RefShapeR 16 w) := by
  go_enter Try.func65, Try.ntmps65
  go_wp2
  exact bodyPost_ret (v := .tuple #[.string ⟨#[66]⟩, .int .i64 2, .int .i64 0, .bool true]) (by simp [results, Try.results65, go_sem, *]) rfl ⟨rfl, rfl⟩
theorem refShape17 {w : World} : Calls Try.prog 65 #[.int .i64 17] w (RefShapeR 17 w) := by
  go_enter Try.func65, Try.ntmps65
  go_wp2
  exact bodyPost_ret (v := .tuple #[.string ⟨#[66, 73, 73]⟩, .int .i64 1, .int .i64 0, .bool true]) (by simp [results, Try.results65, go_sem, *]) rfl ⟨rfl, rfl⟩
theorem refShape18 {w : World} : Calls Try.prog 65 #[.int .i64 18] w (RefShapeR 18 w) := by
  go_enter Try.func65, Try.ntmps65
  go_wp2
  exact bodyPost_ret (v := .tuple #[.string ⟨#[]⟩, .int .i64 1, .int .i64 3, .bool true]) (by simp [results, Try.results65, go_sem, *]) rfl ⟨rfl, rfl⟩
theorem refShape19 {w : World} : Calls Try.prog 65 #[.int .i64 19] w (RefShapeR 19 w) := by
  go_enter Try.func65, Try.ntmps65
  go_wp2
  exact bodyPost_ret (v := .tuple #[.string ⟨#[73]⟩, .int .i64 1, .int .i64 3, .bool true]) (by simp [results, Try.results65, go_sem, *]) rfl ⟨rfl, rfl⟩
theorem refShape21 {w : World} : Calls Try.prog 65 #[.int .i64 21] w (RefShapeR 21 w) := by
  go_enter Try.func65, Try.ntmps65
  go_wp2
  exact bodyPost_ret (v := .tuple #[.string ⟨#[73]⟩, .int .i64 1, .int .i64 3, .bool true]) (by simp [results, Try.results65, go_sem, *]) rfl ⟨rfl, rfl⟩
theorem refShape20 {w : World} : Calls Try.prog 65 #[.int .i64 20] w (RefShapeR 20 w) := by
  go_enter Try.func65, Try.ntmps65
  go_wp2
  exact bodyPost_ret (v := .tuple #[.string ⟨#[73, 73]⟩, .int .i64 0, .int .i64 3, .bool true]) (by simp [results, Try.results65, go_sem, *]) rfl ⟨rfl, rfl⟩
theorem refShape22 {w : World} : Calls Try.prog 65 #[.int .i64 22] w (RefShapeR 22 w) := by
  go_enter Try.func65, Try.ntmps65
  go_wp2
  exact bodyPost_ret (v := .tuple #[.string ⟨#[73, 73]⟩, .int .i64 0, .int .i64 3, .bool true]) (by simp [results, Try.results65, go_sem, *]) rfl ⟨rfl, rfl⟩
theorem refShape23 {w : World} : Calls Try.prog 65 #[.int .i64 23] w (RefShapeR 23 w) := by
  go_enter Try.func65, Try.ntmps65
  go_wp2
  exact bodyPost_ret (v := .tuple #[.string ⟨#[73]⟩, .int .i64 0, .int .i64 0, .bool true]) (by simp [results, Try.results65, go_sem, *]) rfl ⟨rfl, rfl⟩
theorem refShape24 {w : World} : Calls Try.prog 65 #[.int .i64 24] w (RefShapeR 24 w) := by
  go_enter Try.func65, Try.ntmps65
  go_wp2
  exact bodyPost_ret (v := .tuple #[.string ⟨#[]⟩, .int .i64 1, .int .i64 4, .bool true]) (by simp [results, Try.results65, go_sem, *]) rfl ⟨rfl, rfl⟩
theorem refShape25 {w : World} : Calls Try.prog 65 #[.int .i64 25] w (RefShapeR 25 w) := by
  go_enter Try.func65, Try.ntmps65
  go_wp2
  exact bodyPost_ret (v := .tuple #[.string ⟨#[73]⟩, .int .i64 0, .int .i64 4, .bool true]) (by simp [results, Try.results65, go_sem, *]) rfl ⟨rfl, rfl⟩
set_option maxHeartbeats 1600000 in
theorem refShapeNo {w : World} {op : Int} (h : op < 1 ∨ 25 < op) : Calls Try.prog 65 #[.int .i64 op] w (RefShapeR op w) := by
  have HS := Lib.hid (show shp op = none by unfold shp; repeat (rw [if_neg (by omega)]))
  have e1 : (op == 1) = false := by simp; omega
  have e2 : (op == 2) = false := by simp; omega
  have e3 : (op == 3) = false := by simp; omega
  have e4 : (op == 4) = false := by simp; omega
  have e5 : (op == 5) = false := by simp; omega
  have e6 : (op == 6) = false := by simp; omega
  have e7 : (op == 7) = false := by simp; omega
  have e8 : (op == 8) = false := by simp; omega
  have e9 : (op == 9) = false := by simp; omega
  have e10 : (op == 10) = false := by simp; omega
  have e11 : (op == 11) = false := by simp; omega
  have e12 : (op == 12) = false := by simp; omega
  have e13 : (op == 13) = false := by simp; omega
  have e14 : (op == 14) = false := by simp; omega
  have e15 : (op == 15) = false := by simp; omega
  have e16 : (op == 16) = false := by simp; omega
  have e17 : (op == 17) = false := by simp; omega
  have e18 : (op == 18) = false := by simp; omega
  have e19 : (op == 19) = false := by simp; omega
  have e20 : (op == 20) = false := by simp; omega
  have e21 : (op == 21) = false := by simp; omega
  have e22 : (op == 22) = false := by simp; omega
  have e23 : (op == 23) = false := by simp; omega
  have e24 : (op == 24) = false := by simp; omega
  have e25 : (op == 25) = false := by simp; omega
  clear h
  go_enter Try.func65, Try.ntmps65
  go_wp2
  exact bodyPost_ret (v := .tuple #[.string ⟨#[]⟩, .int .i64 0, .int .i64 0, .bool false]) (by simp [results, Try.results65, go_sem, *]) rfl ⟨by unfold shp0; rw [HS.out]; rfl, rfl⟩
theorem refShape {w : World} (op : Int) : Calls Try.prog 65 #[.int .i64 op] w (RefShapeR op w) := by
  by_cases h : op < 1 ∨ 25 < op
  · exact refShapeNo h
  · obtain rfl | rfl | rfl | rfl | rfl | rfl | rfl | rfl | rfl | rfl | rfl | rfl | rfl | rfl | rfl | rfl | rfl | rfl | rfl | rfl | rfl | rfl | rfl | rfl | rfl : op = 1 ∨ op = 2 ∨ op = 3 ∨ op = 4 ∨ op = 5 ∨ op = 6 ∨ op = 7 ∨ op = 8 ∨ op = 9 ∨ op = 10 ∨ op = 11 ∨ op = 12 ∨ op = 13 ∨ op = 14 ∨ op = 15 ∨ op = 16 ∨ op = 17 ∨ op = 18 ∨ op = 19 ∨ op = 20 ∨ op = 21 ∨ op = 22 ∨ op = 23 ∨ op = 24 ∨ op = 25 := by omega
    · exact refShape1
    · exact refShape2
    · exact refShape3
    · exact refShape4
    · exact refShape5
    · exact refShape6
    · exact refShape7
    · exact refShape8
    · exact refShape9
    · exact refShape10
    · exact refShape11
    · exact refShape12
    · exact refShape13
    · exact refShape14
    · exact refShape15
    · exact refShape16
    · exact refShape17
    · exact refShape18
    · exact refShape19
    · exact refShape20
    · exact refShape21
    · exact refShape22
    · exact refShape23
    · exact refShape24
    · exact refShape25
theorem shp0_no {op : Int} (h : op < 1 ∨ 25 < op) : shp0 op = ⟨0, [], 0⟩ := by
  have HS : shp op = none := by unfold shp; repeat (rw [if_neg (by omega)])
  unfold shp0; rw [HS]; rfl
theorem shp0_args (op : Int) : (shp0 op).args.length ≤ 3 ∧ (∀ t ∈ (shp0 op).args, t = 1 ∨ t = 2) ∧ 0 ≤ (shp0 op).result ∧ (shp0 op).result ≤ 2 := by
  by_cases h : op < 1 ∨ 25 < op
  · rw [shp0_no h]; simp
  · obtain rfl | rfl | rfl | rfl | rfl | rfl | rfl | rfl | rfl | rfl | rfl | rfl | rfl | rfl | rfl | rfl | rfl | rfl | rfl | rfl | rfl | rfl | rfl | rfl | rfl : op = 1 ∨ op = 2 ∨ op = 3 ∨ op = 4 ∨ op = 5 ∨ op = 6 ∨ op = 7 ∨ op = 8 ∨ op = 9 ∨ op = 10 ∨ op = 11 ∨ op = 12 ∨ op = 13 ∨ op = 14 ∨ op = 15 ∨ op = 16 ∨ op = 17 ∨ op = 18 ∨ op = 19 ∨ op = 20 ∨ op = 21 ∨ op = 22 ∨ op = 23 ∨ op = 24 ∨ op = 25 := by omega
    all_goals decide
theorem own_none {w : World} {T : TypeId} {B : Nat} {bs : List Nat} (hB : B ≤ w.heap.size) (hbs : ∀ b ∈ bs, b ≠ w.heap.size) (size : Nat) : Own (w.alloc (.cells #[] T)) B bs T size (.slice (some ⟨w.heap.size, 0, none⟩) 0 0) 0 [] :=
  ⟨⟨by simp, .inr ⟨w.heap.size, 0, #[], by simp, hB, by (show (w.heap.push _)[w.heap.size]? = _); simp, by simp, by unfold maxLen; omega, by simp, by simp⟩⟩, fun g hg hm => by cases hg; exact hbs _ hm rfl⟩
def RefArgsR (op : Int) (w : World) (e : Ending) (w' : World) : Prop := ∃ u, e = .returned (.tuple #[.int .i64 (shp0 op).result, u, .bool (shp op).isSome]) ∧ New 3 w w' u (shp0 op).args ∧ Below w.heap.size w w'
set_option maxHeartbeats 3200000 in
theorem refArgs {w : World} (op : Int) : Calls Try.prog 24 #[.int .i64 op] w (RefArgsR op w) := by
  obtain ⟨args, hargs⟩ : ∃ args, args = (shp0 op).args := ⟨_, rfl⟩
  obtain ⟨n, hn⟩ : ∃ n, n = args.length := ⟨_, rfl⟩
  have h12 := shp0_args op
  rw [← hargs, ← hn] at h12
  have H12 := Lib.hid h12.2.1
  have hn3 := h12.1
  obtain ⟨s, hs⟩ : ∃ s, s = strA args := ⟨_, rfl⟩
  have hsz : s.size = n := by rw [hs, hn]; unfold strA; simp [ByteArray.size]
  have HSB : Hid (∀ (k : Nat) (h : k < s.size), ((s[k]'h).toNat : Int) = if args.getD k 0 = 1 then 73 else 66) := Lib.hid (by
    subst hs
    intro k h
    have hk : k < args.length := by rw [hsz, hn] at h; exact h
    have : (strA args)[k]'h = if args[k] = 1 then (73 : UInt8) else 66 := by
      have h2 : k < ((args.map fun t => if t = 1 then (73 : UInt8) else 66).toArray).size := h
      have h3 : ((args.map fun t => if t = 1 then (73 : UInt8) else 66).toArray)[k]'h2 = if args[k] = 1 then (73 : UInt8) else 66 := by simp
      exact h3
    rw [this, List.getD_eq_getElem?_getD, List.getElem?_eq_getElem hk, Option.getD_some]
    split <;> rfl)
  have HS := Lib.hid hs
  have HA := Lib.hid hargs
  have HN := Lib.hid hn
  have HSZ := Lib.hid hsz
  clear h12 hs hargs hn hsz
  go_enter Try.func24, Try.ntmps24
  go_wp2_with fail
  refine (refShape op).mono ?_
  rintro e w1 ⟨rfl, rfl⟩
  rw [← HA.out, ← HS.out]
  go_wp2_with fail
  have hO0 : Own (w.alloc (.cells #[] 3)) w.heap.size [] 3 1 (.slice (some ⟨w.heap.size, 0, none⟩) 0 0) 0 [] := own_none (Nat.le_refl _) (by simp) 1
  have HO := Lib.hid hO0
  have HW := Lib.hid ((Below.refl w.heap.size w).alloc (Nat.le_refl _) (.cells #[] 3))
  clear hO0
  generalize w.alloc _ = wa at *
  go_loopw [9, 10] (fun u i wr => ∃ k : Nat, k ≤ n ∧ i = .int .i64 k ∧ Own wr w.heap.size [] 3 1 u k ((args.take k).map (.int .i64)) ∧ Below w.heap.size w wr) (fun _ i _ => n - (intOf i).toNat)
  case atStart => exact ⟨0, Nat.zero_le _, rfl, HO.out, HW.out⟩
  case round =>
    obtain ⟨k, hk, rfl, hO, hW⟩ := hrel
    obtain ⟨a, c, rfl⟩ := hO.form
    replace HO := Lib.hid hO
    replace HW := Lib.hid hW
    clear hO hW
    have hsz := HSZ.out
    by_cases hlt : k < n
    · have hks : k < s.size := by omega
      have hsl : k < s.size ∧ s.size ≤ 3 := ⟨hks, by omega⟩
      have HK := Lib.hid (HSB.out k hks)
      have HKS := Lib.hid (take_snoc args k (args.getD k 0) (list_at args k (by have := HN.out; omega)))
      have HTM := Lib.hid (H12.out (args.getD k 0) (List.mem_of_getElem? (list_at args k (by have := HN.out; omega))))
      generalize args.getD k 0 = t at *
      have hs3 := hsl.2
      clear hsl
      have HSZ2 := Lib.hid hsz
      clear hsz
      rcases HTM.out with rfl | rfl
      all_goals
        have hbt := HK.out
        simp only [if_true, show ((2 : Int) = 1) = False by simp, if_false] at hbt
        first | (have hbt2 : (((s[k]'hks).toNat : Int) == 73) = true := by rw [hbt]; rfl) | (have hbt2 : (((s[k]'hks).toNat : Int) == 73) = false := by rw [hbt]; rfl)
        clear hbt
        go_wp2_with (at_builtin; refine wpList_own rfl _ _ 22 3 rfl elInt rfl rfl (HO.out.alloc _) (Row.of_box (n := 1) (size := 1) (Box.new _ _ _) rfl (by omega)) (by simp [Value.oneCell']) (by unfold maxLen; omega) (by omega) (by simp; have := HW.out.size; omega) (by intro b hb; simp at hb) ?_; intro v2 w2 hO2 _ hB2; have HO2 := Lib.hid hO2; have HB2 := Lib.hid hB2; clear hO2 hB2)
        go_roundw
        case rel => exact ⟨k + 1, hlt, by go_num, by rw [HKS.out, List.map_append]; exact HO2.out, (HW.out.alloc (by have := HW.out.size; omega) _).trans HB2.out⟩
        case measure => simp [intOf]; omega
    · obtain rfl : k = n := by omega
      rw [List.take_of_length_le (by have := HN.out; omega)] at HO
      have hs3 : s.size ≤ 3 := by omega
      go_wp2
      have HNW : Hid (New 3 w wr (.slice a k c) args) := Lib.hid ⟨by rw [← HN.out]; exact HO.out.row, by have := HN.out; omega, fun x hx => by rcases H12.out x hx with rfl | rfl <;> exact ⟨by decide, by decide⟩⟩
      exact bodyPost_ret (v := .tuple #[.int .i64 (shp0 op).result, .slice a k c, .bool (shp op).isSome]) (by simp [results, Try.results24, go_sem, *]) rfl ⟨_, rfl, by rw [← HA.out]; exact HNW.out, HW.out⟩
end Go.Proofs.Ytefpmjnimnmniaa
namespace Go.Proofs.Ytefpmjnimnmniaa
set_option linter.unusedSimpArgs false
set_option linter.unusedVariables false
open Go.RowKit
theorem list_eq {xs ys : List Int} (hl : xs.length = ys.length) (h : ∀ j, j < xs.length → xs.getD j 0 = ys.getD j 0) : xs = ys := by
  apply List.ext_getElem hl
  intro i h1 h2
  have := h i h1
  simpa [List.getD_eq_getElem?_getD, h1, h2] using this
set_option maxHeartbeats 400000 in
theorem sameInts {w : World} {u v : Value} {xs ys : List Int} (hu : Ints w u xs) (hv : Ints w v ys) :
    Calls Try.prog 26 #[u, v] w fun e w' => e = .returned (.bool (decide (xs = ys))) ∧ ∃ n, w' = w.drewN n := by
  have hl1 := hu.le
  have hl2 := hv.le
  obtain ⟨a1, c1, b1, o1, rfl, hc1, hm1, ha1, hx⟩ := hu.parts
  obtain ⟨a2, c2, b2, o2, rfl, hc2, hm2, ha2, hy⟩ := hv.parts
  clear hu hv
  generalize H1 : xs.length = n1 at *
  generalize H2 : ys.length = n2 at *
  have G1 := Lib.hid H1
  have G2 := Lib.hid H2
  clear H1 H2
  by_cases hne : n1 = n2
  · subst hne
    go_enter Try.func26, Try.ntmps26
    go_wp2
    go_loopw [4, 5] (fun r i wr => r = .bool false ∧ ∃ k : Nat, k ≤ n1 ∧ i = .int .i64 k ∧ (∀ j, j < k → xs.getD j 0 = ys.getD j 0) ∧ ∃ n, wr = w.drewN n) (fun _ i _ => n1 - (intOf i).toNat)
    case atStart => exact ⟨rfl, 0, by omega, rfl, by simp, 0, rfl⟩
    case round =>
      obtain ⟨rfl, k, hk, rfl, hsame, n, rfl⟩ := hrel
      have HS := Lib.hid hsame
      clear hsame
      by_cases hlt : k < n1
      · obtain ⟨rfl, -⟩ := ha1 (by omega)
        obtain ⟨rfl, -⟩ := ha2 (by omega)
        have hxk := hx k hlt
        have hyk := hy k hlt
        clear hx hy ha1 ha2
        generalize G3 : xs.getD k 0 = p at *
        generalize G4 : ys.getD k 0 = q at *
        have H3 := Lib.hid G3
        have H4 := Lib.hid G4
        clear G3 G4
        by_cases hpq : p = q
        · subst hpq
          go_wp2
          go_quiet (fail)
          go_wp2
          go_roundw
          case rel =>
            refine ⟨rfl, k + 1, by omega, by go_num, ?_, _, rfl⟩
            intro j hj
            by_cases e : j = k
            · subst e; rw [H3.out, H4.out]
            · exact HS.out j (by omega)
          case measure => simp [intOf]; omega
        · go_wp2
          go_quiet (fail)
          go_wp2
          go_ret
          exact ⟨ret_bool (decide_eq_false (fun e => hpq (by rw [← H3.out, ← H4.out, e]))).symm, drewN_two _ _ _⟩
      · have hkn : k = n1 := by omega
        subst hkn
        go_wp2
        go_ret
        exact ⟨ret_bool (decide_eq_true (list_eq (by rw [G1.out, G2.out]) (by rw [G1.out]; exact HS.out))).symm, _, rfl⟩
  · go_enter Try.func26, Try.ntmps26
    go_wp2
    go_ret
    exact ⟨ret_bool (decide_eq_false (fun e => hne (by rw [← G1.out, ← G2.out, e]))).symm, 0, rfl⟩
theorem sameB {w : World} {u v : Value} {xs ys : List Int} (hu : Ints w u xs) (hv : Ints w v ys) :
    Calls Try.prog 26 #[u, v] w fun e w' => e = .returned (.bool (decide (xs = ys))) ∧ Below w.heap.size w w' := by
  refine (sameInts hu hv).mono ?_
  rintro e w' ⟨rfl, nd, rfl⟩
  exact ⟨rfl, below_drewN (Below.refl _ _) nd⟩
def simplest : FuncD := ⟨[], 0, 0, [⟨[], [⟨1, 0, [], 5⟩], ⟨3, 0, [], 0⟩⟩]⟩
theorem ints_nil {W : World} : Ints W (.slice none 0 0) [] := ⟨Row.nil, by simp⟩
theorem simplest_val {W : World} {bi bb : Nat} (hi : Box W bi #[.int .i64 1, .int .i64 0, .slice none 0 0, .int .i64 5]) (hb : Box W bb #[.slice none 0 0, .slice (some ⟨bi, 0, none⟩) 1 1, .int .i64 3, .int .i64 0, .slice none 0 0, .int .i64 0]) :
    FuncV W (.agg #[.slice none 0 0, .int .i64 0, .int .i64 0, .slice (some ⟨bb, 0, none⟩) 1 1]) simplest := by
  refine ⟨_, _, rfl, ints_nil, ⟨by decide, by decide⟩, ⟨by decide, by decide⟩, _, Row.of_box (n := 1) (size := 6) hb rfl (by omega), fun j x hj => ?_⟩
  obtain rfl : j = 0 := by have := (List.getElem?_eq_some_iff.1 hj).1; simp [simplest] at this; omega
  simp [simplest] at hj
  subst hj
  refine ⟨_, _, _, rfl, SliceOf.nil, ⟨_, Row.of_box (n := 1) (size := 4) hi rfl (by omega), fun j x hj => ?_⟩, _, rfl, ints_nil, ⟨by decide, by decide⟩, ⟨by decide, by decide⟩, by decide, by decide⟩
  obtain rfl : j = 0 := by have := (List.getElem?_eq_some_iff.1 hj).1; simp at this; omega
  simp at hj
  subst hj
  exact ⟨_, rfl, ints_nil, ⟨by decide, by decide⟩, ⟨by decide, by decide⟩, by decide, by decide⟩
theorem simplest_ok : checkF simplest = 0 ∧ sizeA simplest = 2 := by
  constructor <;> decide
end Go.Proofs.Ytefpmjnimnmniaa
