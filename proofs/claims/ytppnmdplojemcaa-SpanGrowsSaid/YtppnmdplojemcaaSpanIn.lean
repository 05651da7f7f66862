/- Spans, and lists of spans, that came in. -/
import Derived.Test.YtppnmdplojemcaaOpen
import Derived.Test.YtppnmdplojemcaaSpan5
namespace Go.Proofs.Ytppnmdplojemcaa
set_option linter.unusedSimpArgs false
set_option linter.unusedVariables false
open Go.RowKit Go.ChangeShapes Go.WideShapes Go.ChangeAt

def SpR (_ : World) (cs : List Value) (s : Sp) : Prop := cs = [.int .i64 s.lo, .int .i64 s.hi] ∧ s.ok

theorem in64_of_wf {x : Int} (h : (Lit.int .i64 x).wf = true) : In64 x := by
  simpa [Lit.wf, IntKind.min, IntKind.max, IntKind.signed, IntKind.bits, In64] using h
theorem opens_span : Opens Try.prog 23 SpR :=
  (opens_struct2 Try.underlying23 (s0 := 1) (s1 := 1) (by kernel_rfl) rfl rfl (by kernel_rfl) (by kernel_rfl) (opens_int Try.underlying3) (opens_int Try.underlying3)).mono
    fun W cs y ⟨d0, d1, e, _, ⟨e0, w0⟩, e1, w1⟩ => ⟨⟨y.1, y.2⟩, by rw [e, e0, e1]; rfl, in64_of_wf w0, in64_of_wf w1⟩
theorem opens_spans : Opens Try.prog 27 (SliceR SpR 2) := opens_slice Try.underlying27 (by kernel_rfl) (by kernel_rfl) (by omega) (Nat.le_of_ble_eq_true rfl : 8 ≤ 16) opens_span

theorem slice_cells {α : Type} {R : World → List Value → α → Prop} {size : Nat} {W : World} {v : Value} {xs : List α} (enc : α → List Value) (h : SliceOf R size W v xs) (he : ∀ ds x, R W ds x → ds = enc x) (hl : ∀ x, (enc x).length = size) :
    Row W v xs.length size (xs.flatMap enc) := by
  obtain ⟨cs, h1, h2⟩ := h
  have : cs = xs.flatMap enc := by
    have hlen := h1.len
    clear h1
    induction xs generalizing cs with
    | nil => simp at hlen; simp [hlen]
    | cons x xs ih =>
      have h0 := he _ _ (h2 0 x rfl)
      simp only [Nat.zero_mul, List.drop_zero] at h0
      rw [List.length_cons, Nat.add_mul, Nat.one_mul] at hlen
      have h3 := ih (cs.drop size) (fun j y hj => by
        have := h2 (j + 1) y hj
        rw [List.drop_drop]
        rw [Nat.add_mul, Nat.one_mul, Nat.add_comm] at this
        exact this) (by rw [List.length_drop]; omega)
      rw [List.flatMap_cons, ← h0, ← h3, List.take_append_drop]
  rw [← this]; exact h1

theorem get_span {H : Type} {enc : TypeId × Value → H} {W : World} {v : Value} {d : DataW H} {ps : List MemPlace} {base : Nat} (hval : Value.okWide Try.prog W .any base 23 v)
    (h : DataW.Trod enc Try.prog W 0 (fun _ => true) true 23 v d ps) (hz : ∀ n ∈ d.weights Try.prog 23, n ≤ reachBytes) : ∃ s : Sp, v = s.val ∧ s.ok := by
  obtain ⟨cs, s, rfl, e, ho⟩ := open_struct_val Try.underlying23 opens_span hval h hz
  exact ⟨s, by unfold Sp.val; rw [← Array.toArray_toList (xs := cs), e], ho⟩
theorem get_spans {H : Type} {enc : TypeId × Value → H} {W : World} {v : Value} {d : DataW H} {ps : List MemPlace} {base : Nat} (hval : Value.okWide Try.prog W .any base 27 v)
    (h : DataW.Trod enc Try.prog W 0 (fun _ => true) true 27 v d ps) (hz : ∀ n ∈ d.weights Try.prog 27, n ≤ reachBytes) : ∃ ss : List Sp, Spans W v ss := by
  obtain ⟨ss, hs⟩ := open_slice_val Try.underlying27 opens_spans hval h hz
  refine ⟨ss, slice_cells (fun s : Sp => [.int .i64 s.lo, .int .i64 s.hi]) hs (fun _ _ h => h.1) (fun _ => rfl), fun p hp => ?_⟩
  obtain ⟨cs, _, h2⟩ := hs
  obtain ⟨j, hj, rfl⟩ := List.getElem_of_mem hp
  exact (h2 j _ (List.getElem?_eq_getElem hj)).2
end Go.Proofs.Ytppnmdplojemcaa
