/- What the claim needs, part 14. -/
import Derived.Test.YtjmikinbdclfbaaCB13
import Derived.Test.YtjmikinbdclfbaaCB12
namespace Go.Proofs.Ytjmikinbdclfbaa
set_option linter.unusedSimpArgs false
set_option linter.unusedVariables false
open Go.RowKit
theorem list_eq {xs ys : List Int} (hl : xs.length = ys.length) (h : ∀ j, j < xs.length → xs.getD j 0 = ys.getD j 0) : xs = ys := by
  apply List.ext_getElem hl
  intro i h1 h2
  have := h i h1
  simpa [List.getD_eq_getElem?_getD, h1, h2] using this
set_option maxHeartbeats 400000 in
theorem sameInts {w : World} {u v : Value} {xs ys : List Int} (hu : Ints w u xs) (hv : Ints w v ys) :
    Calls Try.prog 30 #[u, v] w fun e w' => e = .returned (.bool (decide (xs = ys))) ∧ ∃ n, w' = w.drewN n := by
  have hl1 := hu.le
  have hl2 := hv.le
  obtain ⟨a1, c1, b1, o1, rfl, hc1, hm1, ha1, hx⟩ := hu.parts
  obtain ⟨a2, c2, b2, o2, rfl, hc2, hm2, ha2, hy⟩ := hv.parts
  clear hu hv
  generalize H1 : xs.length = n1 at *
  generalize H2 : ys.length = n2 at *
  have G1 := Lib.hid H1
  have G2 := Lib.hid H2
  clear H1 H2
  by_cases hne : n1 = n2
  · subst hne
    go_enter Try.func30, Try.ntmps30
    go_wp2
    go_loopw [4, 5] (fun r i wr => r = .bool false ∧ ∃ k : Nat, k ≤ n1 ∧ i = .int .i64 k ∧ (∀ j, j < k → xs.getD j 0 = ys.getD j 0) ∧ ∃ n, wr = w.drewN n) (fun _ i _ => n1 - (intOf i).toNat)
    case atStart => exact ⟨rfl, 0, by omega, rfl, by simp, 0, rfl⟩
    case round =>
      obtain ⟨rfl, k, hk, rfl, hsame, n, rfl⟩ := hrel
      have HS := Lib.hid hsame
      clear hsame
      by_cases hlt : k < n1
      · obtain ⟨rfl, -⟩ := ha1 (by omega)
        obtain ⟨rfl, -⟩ := ha2 (by omega)
        have hxk := hx k hlt
        have hyk := hy k hlt
        clear hx hy ha1 ha2
        generalize G3 : xs.getD k 0 = p at *
        generalize G4 : ys.getD k 0 = q at *
        have H3 := Lib.hid G3
        have H4 := Lib.hid G4
        clear G3 G4
        by_cases hpq : p = q
        · subst hpq
          go_wp2
          go_quiet (fail)
          go_wp2
          go_roundw
          case rel =>
            refine ⟨rfl, k + 1, by omega, by go_num, ?_, _, rfl⟩
            intro j hj
            by_cases e : j = k
            · subst e; rw [H3.out, H4.out]
            · exact HS.out j (by omega)
          case measure => simp [intOf]; omega
        · go_wp2
          go_quiet (fail)
          go_wp2
          go_ret
          exact ⟨ret_bool (decide_eq_false (fun e => hpq (by rw [← H3.out, ← H4.out, e]))).symm, drewN_two _ _ _⟩
      · have hkn : k = n1 := by omega
        subst hkn
        go_wp2
        go_ret
        exact ⟨ret_bool (decide_eq_true (list_eq (by rw [G1.out, G2.out]) (by rw [G1.out]; exact HS.out))).symm, _, rfl⟩
  · go_enter Try.func30, Try.ntmps30
    go_wp2
    go_ret
    exact ⟨ret_bool (decide_eq_false (fun e => hne (by rw [← G1.out, ← G2.out, e]))).symm, 0, rfl⟩
theorem sameB {w : World} {u v : Value} {xs ys : List Int} (hu : Ints w u xs) (hv : Ints w v ys) :
    Calls Try.prog 30 #[u, v] w fun e w' => e = .returned (.bool (decide (xs = ys))) ∧ Below w.heap.size w w' := by
  refine (sameInts hu hv).mono ?_
  rintro e w' ⟨rfl, nd, rfl⟩
  exact ⟨rfl, below_drewN (Below.refl _ _) nd⟩
def simplest : FuncD := ⟨[], 0, 0, [⟨[], [⟨1, 0, [], 5⟩], ⟨3, 0, [], 0⟩⟩]⟩
theorem ints_nil {W : World} : Ints W (.slice none 0 0) [] := ⟨Row.nil, by simp⟩
theorem simplest_val {W : World} {bi bb : Nat} (hi : Box W bi #[.int .i64 1, .int .i64 0, .slice none 0 0, .int .i64 5]) (hb : Box W bb #[.slice none 0 0, .slice (some ⟨bi, 0, none⟩) 1 1, .int .i64 3, .int .i64 0, .slice none 0 0, .int .i64 0]) :
    FuncV W (.agg #[.slice none 0 0, .int .i64 0, .int .i64 0, .slice (some ⟨bb, 0, none⟩) 1 1]) simplest := by
  refine ⟨_, _, rfl, ints_nil, ⟨by decide, by decide⟩, ⟨by decide, by decide⟩, _, Row.of_box (n := 1) (size := 6) hb rfl (by omega), fun j x hj => ?_⟩
  obtain rfl : j = 0 := by have := (List.getElem?_eq_some_iff.1 hj).1; simp [simplest] at this; omega
  simp [simplest] at hj
  subst hj
  refine ⟨_, _, _, rfl, SliceOf.nil, ⟨_, Row.of_box (n := 1) (size := 4) hi rfl (by omega), fun j x hj => ?_⟩, _, rfl, ints_nil, ⟨by decide, by decide⟩, ⟨by decide, by decide⟩, by decide, by decide⟩
  obtain rfl : j = 0 := by have := (List.getElem?_eq_some_iff.1 hj).1; simp at this; omega
  simp at hj
  subst hj
  exact ⟨_, rfl, ints_nil, ⟨by decide, by decide⟩, ⟨by decide, by decide⟩, by decide, by decide⟩
theorem simplest_ok : checkF simplest = 0 ∧ sizeA simplest = 2 := by
  constructor <;> decide
end Go.Proofs.Ytjmikinbdclfbaa
namespace Go.Proofs.Ytjmikinbdclfbaa
set_option linter.unusedSimpArgs false
set_option linter.unusedVariables false
open Go.RowKit
theorem FuncV.form {W : World} {v : Value} {f : FuncD} (hv : FuncV W v f) : ∃ ap cp ab cb, v = .agg #[.slice ap f.params.length cp, .int .i64 f.arrays, .int .i64 f.cells, .slice ab f.blocks.length cb] ∧ Ints W (.slice ap f.params.length cp) f.params ∧ In64 f.arrays ∧ In64 f.cells ∧ SliceOf BlockR 6 W (.slice ab f.blocks.length cb) f.blocks := by
  obtain ⟨a, b, rfl, hp, ha, hc, hB⟩ := hv
  obtain ⟨ap, cp, rfl⟩ := hp.form
  obtain ⟨ab, cb, rfl⟩ := hB.form
  exact ⟨ap, cp, ab, cb, rfl, hp, ha, hc, hB⟩
theorem i64_add {x y : Int} (h : In64 (x + y)) : IntKind.i64.wrap (x + y) = x + y := by
  rw [i64_wrap]; exact wrap_in h
end Go.Proofs.Ytjmikinbdclfbaa
namespace Go.Proofs.Ytjmikinbdclfbaa
set_option linter.unusedSimpArgs false
set_option linter.unusedVariables false
open Go.RowKit
structure UseD where
  id : Int
  typ : Int
  blk : Int
  pos : Int
  src : Int
  deriving DecidableEq, Inhabited
def uxP (i : Nat) (p : PhiD) : List UseD := (p.vals.zip p.src).map fun vs => ⟨vs.1, p.typ, i, -1, vs.2⟩
def uxI (i : Nat) (xk : InstrD × Nat) : List UseD := (xk.1.args.zip (shp0 xk.1.op).args).map fun at_ => ⟨at_.1, at_.2, i, xk.2, 0⟩
def uxT (i : Nat) (b : BlockD) : List UseD := if b.term.op = 2 then [⟨b.term.val, 2, i, b.code.length, 0⟩] else if b.term.op = 3 then [⟨b.term.val, 0, i, b.code.length, 0⟩] else []
def uxB (bi : BlockD × Nat) : List UseD := bi.1.phis.flatMap (uxP bi.2) ++ bi.1.code.zipIdx.flatMap (uxI bi.2) ++ uxT bi.2 bi.1
def uxF (f : FuncD) : List UseD := f.blocks.zipIdx.flatMap uxB
structure Even (f : FuncD) : Prop where
  phi : ∀ b ∈ f.blocks, ∀ p ∈ b.phis, p.src.length = p.vals.length ∧ p.vals.length ≤ 512
  args : ∀ b ∈ f.blocks, ∀ x ∈ b.code, x.args.length = (shp0 x.op).args.length
  size : sizeF f ≤ 4096
  len : f.blocks.length ≤ 512
theorem holes (n : Nat) : ∀ l : List Int, l.Nodup → (∀ x ∈ l, 0 ≤ x ∧ x < (n : Int)) → l.length ≤ n := by
  induction n with
  | zero =>
    intro l _ h
    cases l with
    | nil => simp
    | cons x l => have := h x (by simp); omega
  | succ n ih =>
    intro l hnd h
    by_cases hm : (n : Int) ∈ l
    · have h1 := ih (l.erase (n : Int)) (hnd.erase _) (fun x hx => by
        have h2 := (hnd.mem_erase_iff).1 hx
        have h3 := h x h2.2
        have h4 := h2.1
        omega)
      rw [List.length_erase_of_mem hm] at h1
      omega
    · have h1 := ih l hnd (fun x hx => by
        have h3 := h x hx
        have h4 : x ≠ n := fun e => hm (e ▸ hx)
        omega)
      omega
theorem even_of {f : FuncD} (h : formB f = true) : Even f := by
  have h0 := h
  unfold formB headOk at h0
  simp only [Bool.and_eq_true, decide_eq_true_eq, List.all_eq_true] at h0
  have hblk : ∀ b ∈ f.blocks, ∃ j, blockOk f.blocks.length f.arrays f.cells (b, j) = true := fun b hb => by
    obtain ⟨j, hj, rfl⟩ := List.getElem_of_mem hb
    exact ⟨j, h0.2 (f.blocks[j], j) (by rw [List.mem_iff_getElem?]; exact ⟨j, by simp [hj]⟩)⟩
  refine ⟨fun b hb p hp => ?_, fun b hb x hx => ?_, h0.1.1.2, h0.1.1.1.2⟩
  · obtain ⟨j, h1⟩ := hblk b hb
    unfold blockOk at h1
    simp only [Bool.and_eq_true, List.all_eq_true] at h1
    have h2 := h1.1.1.2 p hp
    unfold phiOk at h2
    simp only [Bool.and_eq_true, beq_iff_eq, List.all_eq_true, decide_eq_true_eq] at h2
    refine ⟨h2.1.1.2, ?_⟩
    have h3 := holes f.blocks.length p.src h2.2 (fun x hx => by have := h2.1.2 x hx; unfold numB at this; simpa using this)
    have h4 := h0.1.1.1.2
    have h5 := h2.1.1.2
    omega
  · obtain ⟨j, h1⟩ := hblk b hb
    unfold blockOk at h1
    simp only [Bool.and_eq_true, List.all_eq_true] at h1
    have h2 := h1.1.2 x hx
    unfold instrOk at h2
    simp only [Bool.and_eq_true, beq_iff_eq] at h2
    exact h2.1.1.2
def UseD.pair (u : UseD) : Int × Int := (u.id, u.typ)
theorem ux_pairs {f : FuncD} (he : Even f) : (uxF f).map UseD.pair = usesF f := by
  have hB : ∀ b ∈ f.blocks, ∀ j, (uxB (b, j)).map UseD.pair = usesB b := by
    intro b hb j
    unfold uxB usesB
    rw [List.map_append, List.map_append]
    congr 1
    · congr 1
      · simp only
        rw [List.map_flatMap]
        have : ∀ l : List PhiD, (∀ p ∈ l, p.src.length = p.vals.length) → l.flatMap (fun p => (uxP j p).map UseD.pair) = l.flatMap usesP := by
          intro l
          induction l with
          | nil => intro _; rfl
          | cons p l ih =>
            intro h
            rw [List.flatMap_cons, List.flatMap_cons, ih fun q hq => h q (by simp [hq])]
            congr 1
            unfold uxP usesP
            rw [List.map_map]
            have h1 := h p (by simp)
            have h2 : (p.vals.zip p.src).map Prod.fst = p.vals := List.map_fst_zip (by omega)
            have h3 : (p.vals.zip p.src).map (UseD.pair ∘ fun vs => ⟨vs.1, p.typ, j, -1, vs.2⟩) = ((p.vals.zip p.src).map Prod.fst).map fun v => (v, p.typ) := by rw [List.map_map]; rfl
            rw [h3, h2]
        exact this b.phis fun p hp => (he.phi b hb p hp).1
      · simp only
        rw [List.map_flatMap]
        have : ∀ l : List (InstrD × Nat), l.flatMap (fun x => (uxI j x).map UseD.pair) = (l.map (·.1)).flatMap usesI := by
          intro l
          induction l with
          | nil => rfl
          | cons x l ih =>
            rw [List.flatMap_cons, List.map_cons, List.flatMap_cons, ih]
            congr 1
            unfold uxI usesI
            rw [List.map_map]
            have : (UseD.pair ∘ fun at_ : Int × Int => (⟨at_.1, at_.2, j, x.2, 0⟩ : UseD)) = id := rfl
            rw [this, List.map_id]
        rw [this, List.zipIdx_map_fst]
    · unfold uxT usesT
      simp only
      split
      · rfl
      · split <;> rfl
  unfold uxF usesF
  rw [List.map_flatMap]
  have : ∀ l : List (BlockD × Nat), (∀ x ∈ l, x.1 ∈ f.blocks) → l.flatMap (fun x => (uxB x).map UseD.pair) = (l.map (·.1)).flatMap usesB := by
    intro l
    induction l with
    | nil => intro _; rfl
    | cons x l ih =>
      intro h
      rw [List.flatMap_cons, List.map_cons, List.flatMap_cons, ih fun y hy => h y (by simp [hy])]
      congr 1
      exact hB x.1 (h x (by simp)) x.2
  rw [this _ (fun x hx => by obtain ⟨i, hi, rfl⟩ := List.getElem_of_mem hx; simp), List.zipIdx_map_fst]
end Go.Proofs.Ytjmikinbdclfbaa
namespace Go.Proofs.Ytjmikinbdclfbaa
set_option linter.unusedSimpArgs false
set_option linter.unusedVariables false
open Go.RowKit
theorem New.box {T : TypeId} {w w' : World} {u : Value} {xs : List Int} (h : New T w w' u xs) (hp : 0 < xs.length) : ∃ g cap A, u = .slice (some ⟨g, 0, none⟩) xs.length cap ∧ w.heap.size ≤ g ∧ Box w' g A ∧ ∀ j, j < xs.length → A[j]? = some (.int .i64 (xs.getD j 0)) := by
  rcases h.own.2 with ⟨_, h2⟩ | ⟨g, cap, cur, hv, hb, hh, h1, h2, h3, h4⟩
  · omega
  · refine ⟨g, cap, cur, hv, hb, ⟨(Array.getElem?_eq_some_iff.1 hh).1, fun o => ?_, fun o => ?_⟩, fun j hj => ?_⟩
    · simp only [World.cell?, hh]; simp
    · simp only [World.frozen?, hh]; simp
    · have e := congrArg (fun l => l[j]?) h4
      simp only [List.getElem?_map, list_at xs j hj, Option.map_some] at e
      rw [List.getElem?_take] at e
      split at e
      · simpa using e
      · cases e
end Go.Proofs.Ytjmikinbdclfbaa
namespace Go.Proofs.Ytjmikinbdclfbaa
set_option linter.unusedSimpArgs false
set_option linter.unusedVariables false
open Go.RowKit
theorem Own.put {W : World} {base : Nat} {bs : List Nat} {e : TypeId} {g n cap : Nat} {cs : List Value} (h : Own W base bs e 1 (.slice (some ⟨g, 0, none⟩) n cap) n cs) {i : Nat} (hi : i < n) (u : Value) :
    Own (W.setCell ⟨g, i, none⟩ u) base bs e 1 (.slice (some ⟨g, 0, none⟩) n cap) n (cs.set i u) := by
  refine ⟨⟨by rw [List.length_set]; exact h.row.1, ?_⟩, h.free⟩
  rcases h.row.2 with ⟨h2, _⟩ | ⟨g', cap', cur, hv, hb, hh, h1, h2, h3, h4⟩
  · cases h2
  · cases hv
    refine .inr ⟨g, cap, cur.setIfInBounds i u, rfl, hb, ?_, h1, h2, by simpa using h3, ?_⟩
    · simp [World.setCell, Array.getElem?_modify, hh]
    · rw [← h4]
      simp only [Array.toList_setIfInBounds]
      rw [List.take_set]
theorem Own.cells {W : World} {base : Nat} {bs : List Nat} {e : TypeId} {v : Value} {n : Nat} {cs : List Value} (h : Own W base bs e 1 v n cs) (hn : 0 < n) : ∃ g cap, v = .slice (some ⟨g, 0, none⟩) n cap ∧ g ∉ bs ∧ base ≤ g ∧ g < W.heap.size ∧ n ≤ cap ∧ cap ≤ 9223372036854775807 ∧ (∀ i x, cs[i]? = some x → W.cell? ⟨g, i, none⟩ = some x) ∧ ∀ o, W.frozen? ⟨g, o, none⟩ = false := by
  rcases h.row.2 with ⟨_, h2⟩ | ⟨g, cap, cur, hv, hb, hh, h1, h2, h3, h4⟩
  · omega
  · refine ⟨g, cap, hv, h.free g (by rw [hv]; rfl), hb, (Array.getElem?_eq_some_iff.1 hh).1, h1, by unfold maxLen at h2; omega, fun i x hx => ?_, fun o => ?_⟩
    · simp only [World.cell?, hh]
      rw [← h4, List.getElem?_take] at hx
      split at hx
      · simpa using hx
      · cases hx
    · simp only [World.frozen?, hh]; simp
theorem Own.ints {W : World} {base : Nat} {bs : List Nat} {e : TypeId} {v : Value} {xs : List Int} (h : Own W base bs e 1 v xs.length (xs.map (.int .i64))) (hn : xs.length ≤ 17592186044416) (hx : ∀ x ∈ xs, In64 x) : Ints W v xs := Ints.of_own h.row hn hx
def Rise (L : List Int) : Prop := L.Pairwise (· < ·)
theorem Rise.lt {L : List Int} (h : Rise L) {i j : Nat} {x y : Int} (hi : L[i]? = some x) (hj : L[j]? = some y) (hij : i < j) : x < y := by
  obtain ⟨hi1, rfl⟩ := List.getElem?_eq_some_iff.1 hi
  obtain ⟨hj1, rfl⟩ := List.getElem?_eq_some_iff.1 hj
  exact (List.pairwise_iff_getElem.1 h) i j hi1 hj1 hij
end Go.Proofs.Ytjmikinbdclfbaa
namespace Go.Proofs.Ytjmikinbdclfbaa
set_option linter.unusedSimpArgs false
set_option linter.unusedVariables false
open Go.RowKit
theorem Ints.later {W W' : World} {v : Value} {xs : List Int} (h : Ints W v xs) (hb : Below W.heap.size W W') : Ints W' v xs := h.below hb
theorem Row.later {W W' : World} {v : Value} {n size : Nat} {cs : List Value} (h : Row W v n size cs) (hb : Below W.heap.size W W') : Row W' v n size cs := h.below hb
end Go.Proofs.Ytjmikinbdclfbaa
