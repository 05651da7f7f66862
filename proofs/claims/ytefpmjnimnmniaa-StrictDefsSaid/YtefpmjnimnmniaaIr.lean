/- Functions as data: phis, instructions, ends, blocks; how they lie in memory; how they come in. -/
import Derived.Test.YtefpmjnimnmniaaOpen
import Derived.Test.YtefpmjnimnmniaaOwn
namespace Go.Proofs.Ytefpmjnimnmniaa
set_option linter.unusedSimpArgs false
set_option linter.unusedVariables false
open Go.RowKit Go.ChangeShapes Go.WideShapes Go.ChangeAt

structure PhiD where
  id : Int
  typ : Int
  src : List Int
  vals : List Int
  deriving DecidableEq, Inhabited
structure InstrD where
  op : Int
  id : Int
  args : List Int
  n : Int
  deriving DecidableEq, Inhabited
structure TermD where
  op : Int
  val : Int
  to : List Int
  n : Int
  deriving DecidableEq, Inhabited
structure BlockD where
  phis : List PhiD
  code : List InstrD
  term : TermD
  deriving DecidableEq, Inhabited
structure FuncD where
  params : List Int
  arrays : Int
  cells : Int
  blocks : List BlockD
  deriving DecidableEq, Inhabited

/-- One cell that holds a whole number. -/
def NumR (_ : World) (cs : List Value) (x : Int) : Prop := cs = [.int .i64 x] ∧ In64 x
/-- One cell that holds a slice of whole numbers. -/
def IntsR (W : World) (cs : List Value) (xs : List Int) : Prop := ∃ v, cs = [v] ∧ Ints W v xs
def PhiR (W : World) (cs : List Value) (p : PhiD) : Prop := ∃ v u, cs = [.int .i64 p.id, .int .i64 p.typ, v, u] ∧ Ints W v p.src ∧ Ints W u p.vals ∧ In64 p.id ∧ In64 p.typ
def InstrR (W : World) (cs : List Value) (x : InstrD) : Prop := ∃ v, cs = [.int .i64 x.op, .int .i64 x.id, v, .int .i64 x.n] ∧ Ints W v x.args ∧ In64 x.op ∧ In64 x.id ∧ In64 x.n
def TermR (W : World) (cs : List Value) (t : TermD) : Prop := ∃ v, cs = [.int .i64 t.op, .int .i64 t.val, v, .int .i64 t.n] ∧ Ints W v t.to ∧ In64 t.op ∧ In64 t.val ∧ In64 t.n
def BlockR (W : World) (cs : List Value) (b : BlockD) : Prop := ∃ v u t, cs = v :: u :: t ∧ SliceOf PhiR 4 W v b.phis ∧ SliceOf InstrR 4 W u b.code ∧ TermR W t b.term
def FuncR (W : World) (cs : List Value) (f : FuncD) : Prop := ∃ v u, cs = [v, .int .i64 f.arrays, .int .i64 f.cells, u] ∧ Ints W v f.params ∧ In64 f.arrays ∧ In64 f.cells ∧ SliceOf BlockR 6 W u f.blocks

theorem PhiR.lasting : Lasting PhiR := fun _ _ _ _ ⟨v, u, e, h1, h2, r⟩ hb => ⟨v, u, e, h1.below hb, h2.below hb, r⟩
theorem InstrR.lasting : Lasting InstrR := fun _ _ _ _ ⟨v, e, h1, r⟩ hb => ⟨v, e, h1.below hb, r⟩
theorem TermR.lasting : Lasting TermR := fun _ _ _ _ ⟨v, e, h1, r⟩ hb => ⟨v, e, h1.below hb, r⟩
theorem BlockR.lasting : Lasting BlockR := fun _ _ _ _ ⟨v, u, t, e, h1, h2, h3⟩ hb => ⟨v, u, t, e, h1.below PhiR.lasting hb, h2.below InstrR.lasting hb, TermR.lasting _ _ _ _ h3 hb⟩
theorem FuncR.lasting : Lasting FuncR := fun _ _ _ _ ⟨v, u, e, h1, h2, h3, h4⟩ hb => ⟨v, u, e, h1.below hb, h2, h3, h4.below BlockR.lasting hb⟩

theorem in64_wf {x : Int} (h : (Lit.int .i64 x).wf = true) : In64 x := by
  simpa [Lit.wf, IntKind.min, IntKind.max, IntKind.signed, IntKind.bits, In64] using h

theorem slice_cells {α : Type} {R : World → List Value → α → Prop} {size : Nat} {W : World} {v : Value} {xs : List α} (enc : α → List Value) (h : SliceOf R size W v xs) (he : ∀ ds x, R W ds x → ds = enc x) (hl : ∀ x, (enc x).length = size) :
    Row W v xs.length size (xs.flatMap enc) := by
  obtain ⟨cs, h1, h2⟩ := h
  have : cs = xs.flatMap enc := by
    have hlen := h1.len
    clear h1
    induction xs generalizing cs with
    | nil => simp at hlen; simp [hlen]
    | cons x xs ih =>
      have h0 := he _ _ (h2 0 x rfl)
      simp only [Nat.zero_mul, List.drop_zero] at h0
      rw [List.length_cons, Nat.add_mul, Nat.one_mul] at hlen
      have h3 := ih (cs.drop size) (fun j y hj => by
        have := h2 (j + 1) y hj
        rw [List.drop_drop]
        rw [Nat.add_mul, Nat.one_mul, Nat.add_comm] at this
        exact this) (by rw [List.length_drop]; omega)
      rw [List.flatMap_cons, ← h0, ← h3, List.take_append_drop]
  rw [← this]; exact h1
theorem flat_one {α β : Type} (f : α → β) (xs : List α) : xs.flatMap (fun x => [f x]) = xs.map f := by
  induction xs with
  | nil => rfl
  | cons x xs ih => simp [ih]
theorem ints_of {W : World} {v : Value} {xs : List Int} (h : SliceOf NumR 1 W v xs) : Ints W v xs := by
  have h1 := slice_cells (fun x : Int => [Value.int .i64 x]) h (fun _ _ h => h.1) (fun _ => rfl)
  rw [flat_one] at h1
  refine ⟨h1, fun x hx => ?_⟩
  obtain ⟨cs, _, h2⟩ := h
  obtain ⟨j, hj, rfl⟩ := List.getElem_of_mem hx
  exact (h2 j _ (List.getElem?_eq_getElem hj)).2

theorem opens_num : Opens Try.prog 3 NumR := (opens_int Try.underlying3).mono fun W cs y h => ⟨y, h.1, in64_wf h.2⟩
theorem opens_ints : Opens Try.prog 22 IntsR :=
  (opens_slice Try.underlying22 (by kernel_rfl) (by kernel_rfl) (by omega) (Nat.le_refl 8) opens_num).mono fun W cs y ⟨v, e, h⟩ => ⟨y, v, e, ints_of h⟩
theorem opens_phi : Opens Try.prog 118 PhiR :=
  (opens_struct4 Try.underlying118 (s0 := 1) (s1 := 1) (s2 := 1) (s3 := 1) (by kernel_rfl) rfl rfl rfl rfl (by kernel_rfl) (by kernel_rfl) (by kernel_rfl) (by kernel_rfl) opens_num opens_num opens_ints opens_ints).mono
    fun W cs y ⟨d0, d1, d2, d3, e, _, ⟨e0, w0⟩, ⟨e1, w1⟩, ⟨v, e2, h2⟩, u, e3, h3⟩ => ⟨⟨y.1, y.2.1, y.2.2.1, y.2.2.2⟩, v, u, by rw [e, e0, e1, e2, e3]; rfl, h2, h3, w0, w1⟩
theorem opens_instr : Opens Try.prog 84 InstrR :=
  (opens_struct4 Try.underlying84 (s0 := 1) (s1 := 1) (s2 := 1) (s3 := 1) (by kernel_rfl) rfl rfl rfl rfl (by kernel_rfl) (by kernel_rfl) (by kernel_rfl) (by kernel_rfl) opens_num opens_num opens_ints opens_num).mono
    fun W cs y ⟨d0, d1, d2, d3, e, _, ⟨e0, w0⟩, ⟨e1, w1⟩, ⟨v, e2, h2⟩, e3, w3⟩ => ⟨⟨y.1, y.2.1, y.2.2.1, y.2.2.2⟩, v, by rw [e, e0, e1, e2, e3]; rfl, h2, w0, w1, w3⟩
theorem opens_term : Opens Try.prog 53 TermR :=
  (opens_struct4 Try.underlying53 (s0 := 1) (s1 := 1) (s2 := 1) (s3 := 1) (by kernel_rfl) rfl rfl rfl rfl (by kernel_rfl) (by kernel_rfl) (by kernel_rfl) (by kernel_rfl) opens_num opens_num opens_ints opens_num).mono
    fun W cs y ⟨d0, d1, d2, d3, e, _, ⟨e0, w0⟩, ⟨e1, w1⟩, ⟨v, e2, h2⟩, e3, w3⟩ => ⟨⟨y.1, y.2.1, y.2.2.1, y.2.2.2⟩, v, by rw [e, e0, e1, e2, e3]; rfl, h2, w0, w1, w3⟩
theorem opens_phis : Opens Try.prog 54 (SliceR PhiR 4) := opens_slice Try.underlying54 (by kernel_rfl) (by kernel_rfl) (by omega) (Nat.le_of_ble_eq_true rfl : 8 ≤ 64) opens_phi
theorem opens_code : Opens Try.prog 55 (SliceR InstrR 4) := opens_slice Try.underlying55 (by kernel_rfl) (by kernel_rfl) (by omega) (Nat.le_of_ble_eq_true rfl : 8 ≤ 48) opens_instr
theorem opens_block : Opens Try.prog 57 BlockR :=
  (opens_struct3 Try.underlying57 (s0 := 1) (s1 := 1) (s2 := 4) (by kernel_rfl) rfl rfl rfl (by kernel_rfl) (by kernel_rfl) (by kernel_rfl) opens_phis opens_code opens_term).mono
    fun W cs y ⟨d0, d1, d2, e, _, ⟨v, e0, h0⟩, ⟨u, e1, h1⟩, h2⟩ => ⟨⟨y.1, y.2.1, y.2.2⟩, v, u, d2, by rw [e, e0, e1]; rfl, h0, h1, h2⟩
theorem opens_blocks : Opens Try.prog 28 (SliceR BlockR 6) := opens_slice Try.underlying28 (by kernel_rfl) (by kernel_rfl) (by omega) (Nat.le_of_ble_eq_true rfl : 8 ≤ 96) opens_block
theorem opens_func : Opens Try.prog 30 FuncR :=
  (opens_struct4 Try.underlying30 (s0 := 1) (s1 := 1) (s2 := 1) (s3 := 1) (by kernel_rfl) rfl rfl rfl rfl (by kernel_rfl) (by kernel_rfl) (by kernel_rfl) (by kernel_rfl) opens_ints opens_num opens_num opens_blocks).mono
    fun W cs y ⟨d0, d1, d2, d3, e, _, ⟨v, e0, h0⟩, ⟨e1, w1⟩, ⟨e2, w2⟩, u, e3, h3⟩ => ⟨⟨y.1, y.2.1, y.2.2.1, y.2.2.2⟩, v, u, by rw [e, e0, e1, e2, e3]; rfl, h0, w1, w2, h3⟩

/-- v is a function's value that reads as f. -/
def FuncV (W : World) (v : Value) (f : FuncD) : Prop := ∃ a b, v = .agg #[a, .int .i64 f.arrays, .int .i64 f.cells, b] ∧ Ints W a f.params ∧ In64 f.arrays ∧ In64 f.cells ∧ SliceOf BlockR 6 W b f.blocks
theorem FuncV.below {W W' : World} {v : Value} {f : FuncD} (h : FuncV W v f) (hb : Below W.heap.size W W') : FuncV W' v f := by
  obtain ⟨a, b, e, h1, h2, h3, h4⟩ := h
  exact ⟨a, b, e, h1.below hb, h2, h3, h4.below BlockR.lasting hb⟩
set_option maxRecDepth 100000 in
theorem get_func {H : Type} {enc : TypeId × Value → H} {W : World} {v : Value} {d : DataW H} {ps : List MemPlace} {base : Nat} (hval : Value.okWide Try.prog W .any base 30 v)
    (h : DataW.Trod enc Try.prog W 0 (fun _ => true) true 30 v d ps) (hz : ∀ n ∈ d.weights Try.prog 30, n ≤ reachBytes) : ∃ f : FuncD, FuncV W v f := by
  obtain ⟨cs, f, hv, hf⟩ := open_struct_val Try.underlying30 opens_func hval h hz
  obtain ⟨a, b, e, r⟩ := hf
  refine ⟨f, a, b, ?_, r⟩
  rw [hv, ← Array.toArray_toList (xs := cs), e]
end Go.Proofs.Ytefpmjnimnmniaa
