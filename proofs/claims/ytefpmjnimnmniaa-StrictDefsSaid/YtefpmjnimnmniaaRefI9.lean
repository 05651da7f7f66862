/- The reference's Uses. -/
import Derived.Test.YtefpmjnimnmniaaRefI8
namespace Go.Proofs.Ytefpmjnimnmniaa
set_option linter.unusedSimpArgs false
set_option linter.unusedVariables false
open Go.RowKit

structure UseD where
  id : Int
  typ : Int
  blk : Int
  pos : Int
  src : Int
  deriving DecidableEq, Inhabited
def cellsU (T : List UseD) : List Value := T.flatMap fun u => [.int .i64 u.id, .int .i64 u.typ, .int .i64 u.blk, .int .i64 u.pos, .int .i64 u.src]
theorem cellsU_snoc (T : List UseD) (a b c d e : Int) : cellsU (T ++ [⟨a, b, c, d, e⟩]) = cellsU T ++ [.int .i64 a, .int .i64 b, .int .i64 c, .int .i64 d, .int .i64 e] := by unfold cellsU; simp
def uxP (i : Nat) (p : PhiD) : List UseD := (p.vals.zip p.src).map fun vs => ⟨vs.1, p.typ, i, -1, vs.2⟩
def uxI (i : Nat) (xk : InstrD × Nat) : List UseD := (xk.1.args.zip (shp0 xk.1.op).args).map fun at_ => ⟨at_.1, at_.2, i, xk.2, 0⟩
def uxT (i : Nat) (b : BlockD) : List UseD := if b.term.op = 2 then [⟨b.term.val, 2, i, b.code.length, 0⟩] else if b.term.op = 3 then [⟨b.term.val, 0, i, b.code.length, 0⟩] else []
def uxB (bi : BlockD × Nat) : List UseD := bi.1.phis.flatMap (uxP bi.2) ++ bi.1.code.zipIdx.flatMap (uxI bi.2) ++ uxT bi.2 bi.1
def uxF (f : FuncD) : List UseD := f.blocks.zipIdx.flatMap uxB
/-- The lists of a formed function's phis and operations are as long as they should be. -/
structure Even (f : FuncD) : Prop where
  phi : ∀ b ∈ f.blocks, ∀ p ∈ b.phis, p.src.length = p.vals.length ∧ p.vals.length ≤ 512
  args : ∀ b ∈ f.blocks, ∀ x ∈ b.code, x.args.length = (shp0 x.op).args.length
  size : sizeF f ≤ 4096
  len : f.blocks.length ≤ 512

theorem holes (n : Nat) : ∀ l : List Int, l.Nodup → (∀ x ∈ l, 0 ≤ x ∧ x < (n : Int)) → l.length ≤ n := by
  induction n with
  | zero =>
    intro l _ h
    cases l with
    | nil => simp
    | cons x l => have := h x (by simp); omega
  | succ n ih =>
    intro l hnd h
    by_cases hm : (n : Int) ∈ l
    · have h1 := ih (l.erase (n : Int)) (hnd.erase _) (fun x hx => by
        have h2 := (hnd.mem_erase_iff).1 hx
        have h3 := h x h2.2
        have h4 := h2.1
        omega)
      rw [List.length_erase_of_mem hm] at h1
      omega
    · have h1 := ih l hnd (fun x hx => by
        have h3 := h x hx
        have h4 : x ≠ n := fun e => hm (e ▸ hx)
        omega)
      omega
theorem even_of {f : FuncD} (h : formB f = true) : Even f := by
  have h0 := h
  unfold formB headOk at h0
  simp only [Bool.and_eq_true, decide_eq_true_eq, List.all_eq_true] at h0
  have hblk : ∀ b ∈ f.blocks, ∃ j, blockOk f.blocks.length f.arrays f.cells (b, j) = true := fun b hb => by
    obtain ⟨j, hj, rfl⟩ := List.getElem_of_mem hb
    exact ⟨j, h0.2 (f.blocks[j], j) (by rw [List.mem_iff_getElem?]; exact ⟨j, by simp [hj]⟩)⟩
  refine ⟨fun b hb p hp => ?_, fun b hb x hx => ?_, h0.1.1.2, h0.1.1.1.2⟩
  · obtain ⟨j, h1⟩ := hblk b hb
    unfold blockOk at h1
    simp only [Bool.and_eq_true, List.all_eq_true] at h1
    have h2 := h1.1.1.2 p hp
    unfold phiOk at h2
    simp only [Bool.and_eq_true, beq_iff_eq, List.all_eq_true, decide_eq_true_eq] at h2
    refine ⟨h2.1.1.2, ?_⟩
    have h3 := holes f.blocks.length p.src h2.2 (fun x hx => by have := h2.1.2 x hx; unfold numB at this; simpa using this)
    have h4 := h0.1.1.1.2
    have h5 := h2.1.1.2
    omega
  · obtain ⟨j, h1⟩ := hblk b hb
    unfold blockOk at h1
    simp only [Bool.and_eq_true, List.all_eq_true] at h1
    have h2 := h1.1.2 x hx
    unfold instrOk at h2
    simp only [Bool.and_eq_true, beq_iff_eq] at h2
    exact h2.1.1.2
theorem flat_le {α β : Type} (g : α → List β) (c : Nat) (l : List α) (h : ∀ x ∈ l, (g x).length ≤ c) : (l.flatMap g).length ≤ c * l.length := by
  induction l with
  | nil => simp
  | cons x l ih =>
    have h1 := h x (by simp)
    have h2 := ih fun y hy => h y (by simp [hy])
    rw [List.flatMap_cons, List.length_append, List.length_cons, Nat.mul_add]
    omega
theorem uxB_le {f : FuncD} (he : Even f) {b : BlockD} {j : Nat} (hb : b ∈ f.blocks) : ((uxB (b, j)).length : Int) ≤ 512 * sizeB b := by
  have h1 := flat_le (uxP j) 512 b.phis (fun p hp => by unfold uxP; rw [List.length_map, List.length_zip]; have := he.phi b hb p hp; omega)
  have h2 := flat_le (uxI j) 3 b.code.zipIdx (fun xk hx => by
    unfold uxI; rw [List.length_map, List.length_zip]
    have := (shp0_args xk.1.op).1; omega)
  have h3 : (uxT j b).length ≤ 1 := by unfold uxT; split; simp; split <;> simp
  rw [List.length_zipIdx] at h2
  unfold uxB sizeB
  rw [List.length_append, List.length_append]
  simp only
  omega
theorem uxF_le {f : FuncD} (he : Even f) : (uxF f).length ≤ 2097152 := by
  have key : ∀ (l : List (BlockD × Nat)), (∀ x ∈ l, x.1 ∈ f.blocks) → ((l.flatMap uxB).length : Int) ≤ 512 * ((l.map (fun x => sizeB x.1)).sum) := by
    intro l
    induction l with
    | nil => intro _; simp
    | cons x l ih =>
      intro h
      have h1 := uxB_le he (j := x.2) (h x (by simp))
      have h2 := ih fun y hy => h y (by simp [hy])
      rw [List.flatMap_cons, List.length_append, List.map_cons, List.sum_cons]
      have e : ((uxB x).length : Int) = ((uxB (x.1, x.2)).length : Int) := rfl
      omega
  have h1 := key f.blocks.zipIdx (fun x hx => by
    obtain ⟨i, hi, rfl⟩ := List.getElem_of_mem hx
    simp)
  have h2 : f.blocks.zipIdx.map (fun x => sizeB x.1) = f.blocks.map sizeB := by
    have : f.blocks.zipIdx.map (fun x => sizeB x.1) = (f.blocks.zipIdx.map (·.1)).map sizeB := by rw [List.map_map]; rfl
    rw [this, List.zipIdx_map_fst]
  rw [h2] at h1
  have h3 := he.size
  unfold sizeF at h3
  unfold uxF
  omega
/-- A use as its value and type. -/
def UseD.pair (u : UseD) : Int × Int := (u.id, u.typ)
theorem ux_pairs {f : FuncD} (he : Even f) : (uxF f).map UseD.pair = usesF f := by
  have hB : ∀ b ∈ f.blocks, ∀ j, (uxB (b, j)).map UseD.pair = usesB b := by
    intro b hb j
    unfold uxB usesB
    rw [List.map_append, List.map_append]
    congr 1
    · congr 1
      · simp only
        rw [List.map_flatMap]
        have : ∀ l : List PhiD, (∀ p ∈ l, p.src.length = p.vals.length) → l.flatMap (fun p => (uxP j p).map UseD.pair) = l.flatMap usesP := by
          intro l
          induction l with
          | nil => intro _; rfl
          | cons p l ih =>
            intro h
            rw [List.flatMap_cons, List.flatMap_cons, ih fun q hq => h q (by simp [hq])]
            congr 1
            unfold uxP usesP
            rw [List.map_map]
            have h1 := h p (by simp)
            have h2 : (p.vals.zip p.src).map Prod.fst = p.vals := List.map_fst_zip (by omega)
            have h3 : (p.vals.zip p.src).map (UseD.pair ∘ fun vs => ⟨vs.1, p.typ, j, -1, vs.2⟩) = ((p.vals.zip p.src).map Prod.fst).map fun v => (v, p.typ) := by rw [List.map_map]; rfl
            rw [h3, h2]
        exact this b.phis fun p hp => (he.phi b hb p hp).1
      · simp only
        rw [List.map_flatMap]
        have : ∀ l : List (InstrD × Nat), l.flatMap (fun x => (uxI j x).map UseD.pair) = (l.map (·.1)).flatMap usesI := by
          intro l
          induction l with
          | nil => rfl
          | cons x l ih =>
            rw [List.flatMap_cons, List.map_cons, List.flatMap_cons, ih]
            congr 1
            unfold uxI usesI
            rw [List.map_map]
            have : (UseD.pair ∘ fun at_ : Int × Int => (⟨at_.1, at_.2, j, x.2, 0⟩ : UseD)) = id := rfl
            rw [this, List.map_id]
        rw [this, List.zipIdx_map_fst]
    · unfold uxT usesT
      simp only
      split
      · rfl
      · split <;> rfl
  unfold uxF usesF
  rw [List.map_flatMap]
  have : ∀ l : List (BlockD × Nat), (∀ x ∈ l, x.1 ∈ f.blocks) → l.flatMap (fun x => (uxB x).map UseD.pair) = (l.map (·.1)).flatMap usesB := by
    intro l
    induction l with
    | nil => intro _; rfl
    | cons x l ih =>
      intro h
      rw [List.flatMap_cons, List.map_cons, List.flatMap_cons, ih fun y hy => h y (by simp [hy])]
      congr 1
      exact hB x.1 (h x (by simp)) x.2
  rw [this _ (fun x hx => by obtain ⟨i, hi, rfl⟩ := List.getElem_of_mem hx; simp), List.zipIdx_map_fst]
end Go.Proofs.Ytefpmjnimnmniaa
