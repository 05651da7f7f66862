/- strict.DefOf. -/
import Derived.Test.YtefpmjnimnmniaaS2
namespace Go.Proofs.Ytefpmjnimnmniaa
set_option linter.unusedSimpArgs false
set_option linter.unusedVariables false
open Go.RowKit

theorem codN_keys (b : Nat) (xs : List InstrD) (h : ∀ y ∈ xs, (0 ≤ y.id ↔ (shp0 y.op).result ≠ 0)) : ∀ k, k ≤ xs.length → (codN b xs k).map (·.1) = ((xs.take k).filter fun y => (shp0 y.op).result != 0).map (·.id) := by
  intro k
  induction k with
  | zero => intro _; simp [codN]
  | succ k ih =>
    intro hk
    obtain ⟨y, hy⟩ : ∃ y, xs[k]? = some y := ⟨_, List.getElem?_eq_getElem (by omega)⟩
    rw [codN_succ hy, take_snoc xs k y hy, List.map_append, List.filter_append, List.map_append, ih (by omega)]
    congr 1
    have h1 := h y (List.mem_of_getElem? hy)
    by_cases h2 : 0 ≤ y.id
    · have h3 := h1.1 h2
      simp [h2, h3]
    · have h3 : (shp0 y.op).result = 0 := Classical.byContradiction fun h4 => h2 (h1.2 h4)
      simp [h2, h3]
theorem entB_keys (b : Nat) (x : BlockD) (h : ∀ y ∈ x.code, (0 ≤ y.id ↔ (shp0 y.op).result ≠ 0)) : (entB b x).map (·.1) = (defsB x).map (·.1) := by
  unfold entB defsB
  rw [List.map_append, List.map_append, codN_keys b x.code h _ (Nat.le_refl _)]
  simp [phiN, List.map_map, Function.comp_def]
theorem blkN_keys (f : FuncD) (h : ∀ x ∈ f.blocks, ∀ y ∈ x.code, (0 ≤ y.id ↔ (shp0 y.op).result ≠ 0)) : ∀ c, c ≤ f.blocks.length → (blkN f c).map (·.1) = ((f.blocks.take c).flatMap defsB).map (·.1) := by
  intro c
  induction c with
  | zero => intro _; simp [blkN]
  | succ c ih =>
    intro hc
    obtain ⟨x, hx⟩ : ∃ x, f.blocks[c]? = some x := ⟨_, List.getElem?_eq_getElem (by omega)⟩
    rw [blkN_succ hx, take_snoc f.blocks c x hx, List.map_append, List.flatMap_append, List.map_append, ih (by omega), entB_keys c x (h x (List.mem_of_getElem? hx))]
    simp
theorem code_ids {f : FuncD} (h : checkF f = 0) : ∀ x ∈ f.blocks, ∀ y ∈ x.code, (0 ≤ y.id ↔ (shp0 y.op).result ≠ 0) := by
  intro x hx y hy
  obtain ⟨h1, h2⟩ := check_fine h
  obtain ⟨b, hb⟩ := List.mem_iff_getElem?.1 hx
  constructor
  · intro h0 hr
    unfold formB at h1
    simp only [Bool.and_eq_true, List.all_eq_true] at h1
    have h3 := h1.2 (x, b) (by rw [List.mem_zipIdx_iff_getElem?]; exact hb)
    unfold blockOk at h3
    simp only [Bool.and_eq_true, List.all_eq_true] at h3
    have h4 := h3.1.2 y hy
    unfold instrOk at h4
    simp [hr] at h4
    omega
  · intro hr
    unfold idsF idsB at h2
    rw [Bool.and_eq_true, List.all_eq_true] at h2
    have h3 := h2.2 (y.id, (shp0 y.op).result) (by
      unfold defsF
      rw [List.mem_flatMap]
      refine ⟨x, hx, ?_⟩
      unfold defsB
      rw [List.mem_append]
      right
      rw [List.mem_map]
      exact ⟨y, List.mem_filter.2 ⟨hy, by simpa using hr⟩, rfl⟩)
    simp at h3
    omega
theorem ent_keys {f : FuncD} (h : checkF f = 0) : (entF f).map (·.1) = (valsF f).map (·.1) := by
  unfold entF valsF
  rw [List.map_append, List.map_append, parT_keys, blkN_keys f (code_ids h) _ (Nat.le_refl _), List.take_length]
  congr 1
  simp [parN, List.map_map, Function.comp_def]
theorem ent_nodup {f : FuncD} (h : checkF f = 0) : ((entF f).map (·.1)).Nodup := by
  rw [ent_keys h]
  have h2 := (check_fine h).2
  unfold idsF idsB at h2
  rw [Bool.and_eq_true, decide_eq_true_eq] at h2
  exact h2.1
theorem def_get {f : FuncD} (h : checkF f = 0) (id : Int) : mget (defM (entF f)) id = ((entF f).find? fun e => e.1 == id).map defV := defM_get id _ _ rfl (ent_nodup h)
theorem zeroDef (w : World) : (zeroValue 140).run Try.prog w = .ok (.agg #[.int .i64 0, .int .i64 0]) w := by kernel_rfl

def DefOfR (f : FuncD) (id : Int) (w : World) (e : Ending) (w' : World) : Prop :=
  ∃ b at_ g : Int, e = .returned (.tuple #[.int .i64 b, .int .i64 at_, .int .i64 g]) ∧ (checkF f ≠ 0 → b = 0 ∧ at_ = 0 ∧ g = checkF f) ∧ (checkF f = 0 → ∀ e, ((entF f).find? fun e => e.1 == id) = some e → b = e.2.1 ∧ at_ = e.2.2 ∧ g = 0) ∧
    (checkF f = 0 → ((entF f).find? fun e => e.1 == id) = none → b = 0 ∧ at_ = 0 ∧ g = 9) ∧ Below w.heap.size w w'
set_option maxHeartbeats 12800000 in
set_option maxRecDepth 100000 in
theorem defOf {w : World} {v : Value} {f : FuncD} {id : Int} (hv : FuncV w v f) : Calls Try.prog 62 #[v, .int .i64 id] w (DefOfR f id w) := by
  have HV := Lib.hid hv
  obtain ⟨ap, cp, ab, cb, rfl, hp, ha, hc, hB⟩ := hv.form
  clear hp ha hc hB hv
  go_enter Try.func62, Try.ntmps62
  go_upto_region 1 with (fail)
  have B1 : Hid (Box (w.alloc (.cells #[.slice ap f.params.length cp, .int .i64 f.arrays, .int .i64 f.cells, .slice ab f.blocks.length cb] 30)) (w.heap.size) #[.slice ap f.params.length cp, .int .i64 f.arrays, .int .i64 f.cells, .slice ab f.blocks.length cb]) := Lib.hid (by simpa using (Box.new w #[.slice ap f.params.length cp, .int .i64 f.arrays, .int .i64 f.cells, .slice ab f.blocks.length cb] 30))
  have HW : Hid (Below w.heap.size w (w.alloc (.cells #[.slice ap f.params.length cp, .int .i64 f.arrays, .int .i64 f.cells, .slice ab f.blocks.length cb] 30))) := Lib.hid ((Below.refl _ _).alloc (Nat.le_refl _) _)
  generalize (w.alloc (.cells #[.slice ap f.params.length cp, .int .i64 f.arrays, .int .i64 f.cells, .slice ab f.blocks.length cb] 30)) = wv at *
  obtain ⟨lB1, cB1, fB1⟩ := B1.out
  go_wp2_with fail
  refine (irCheck (HV.out.below HW.out)).mono ?_
  rintro e w1 ⟨rfl, hb⟩
  clear lB1 cB1 fB1
  replace B1 := Lib.hid (B1.out.later hb)
  replace HW := Lib.hid (HW.out.trans (hb.mono HW.out.size))
  clear hb
  obtain ⟨lB1, cB1, fB1⟩ := B1.out
  by_cases hc0 : checkF f = 0
  · have HC0 := Lib.hid hc0
    have hc1 : (checkF f != 0) = false := by simpa using hc0
    clear hc0
    go_wp2_with fail
    refine (strictDefs (HV.out.below HW.out)).mono ?_
    rintro e w2 ⟨bm, rfl, hm, -, hb⟩
    have HI := Lib.hid hm
    have HMG := Lib.hid (def_get HC0.out id)
    clear hm
    clear lB1 cB1 fB1
    replace B1 := Lib.hid (B1.out.later hb)
    replace HW := Lib.hid (HW.out.trans (hb.mono HW.out.size))
    clear hb
    obtain ⟨lB1, cB1, fB1⟩ := B1.out
    clear lB1 cB1 fB1
    obtain ⟨r, hr⟩ : ∃ r, r = (entF f).find? fun e => e.1 == id := ⟨_, rfl⟩
    rw [← hr] at HMG
    have HR := Lib.hid hr
    clear hr
    cases r with
    | none =>
      go_wp2_with (at_lookup; refine wpList_look (q := .i64) (z := .agg #[.int .i64 0, .int .i64 0]) (b := bm) (mm := defM (entF f)) (y := id) rfl _ _ _ rfl Try.underlying142 Try.underlying3 (zeroDef _) rfl HI.out rfl ?_; rw [HMG.out])
      have HWE := Lib.hid (HW.out.alloc HW.out.size (.cells #[.int .i64 0, .int .i64 0] 140))
      go_ret3
      exact ⟨0, 0, 9, rfl, (fun h => absurd HC0.out h), (fun _ e he => by rw [← HR.out] at he; cases he), (fun _ _ => ⟨rfl, rfl, rfl⟩), HWE.out⟩
    | some e =>
      obtain ⟨e1, e2, e3⟩ := e
      go_upto_region 7 with (at_lookup; refine wpList_look (q := .i64) (z := .agg #[.int .i64 0, .int .i64 0]) (b := bm) (mm := defM (entF f)) (y := id) rfl _ _ _ rfl Try.underlying142 Try.underlying3 (zeroDef _) rfl HI.out rfl ?_; rw [HMG.out]; simp only [Option.map_some, Option.getD_some, Option.isSome_some, defV])
      go_quiet (fail)
      go_wp2
      go_ret3
      exact ⟨e2, e3, 0, rfl, (fun h => absurd HC0.out h), (fun _ e he => by rw [← HR.out] at he; cases he; exact ⟨rfl, rfl, rfl⟩), (fun _ he => by rw [← HR.out] at he; cases he), below_drewN (HW.out.alloc HW.out.size (.cells #[.int .i64 e2, .int .i64 e3] 140)) _⟩
  · have hc1 : (checkF f != 0) = true := by simpa using hc0
    have HC0 := Lib.hid hc0
    clear hc0
    go_wp2
    go_ret3
    exact ⟨0, 0, checkF f, rfl, (fun _ => ⟨rfl, rfl, rfl⟩), (fun h => absurd h HC0.out), (fun h => absurd h HC0.out), HW.out⟩
end Go.Proofs.Ytefpmjnimnmniaa
