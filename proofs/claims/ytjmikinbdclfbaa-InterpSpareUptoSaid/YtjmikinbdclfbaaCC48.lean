/- What the claim needs, part 48. -/
import Derived.Test.YtjmikinbdclfbaaRows
import Derived.Test.YtjmikinbdclfbaaCC39
namespace Go.Proofs.Ytjmikinbdclfbaa
set_option linter.unusedSimpArgs false
set_option linter.unusedVariables false
open Go.RowKit Go.ChangeShapes Go.WideShapes Go.ChangeAt
theorem bulk_one {H : Type} (d : DataW H) : 1 ≤ Rows.uptoBulk d := by
  cases d with
  | lit l => cases l <;> simp [Rows.uptoBulk]
  | nil => simp [Rows.uptoBulk]
  | ptr d => simp [Rows.uptoBulk]
  | slice elems spare => simp [Rows.uptoBulk]
  | agg parts => simp [Rows.uptoBulk]
  | iface t d => simp [Rows.uptoBulk]
  | map entries => simp [Rows.uptoBulk]
  | held h => simp [Rows.uptoBulk]
theorem bulk_len {H : Type} (l : List (DataW H)) : l.length ≤ Rows.uptoBulkAll l := by
  induction l with
  | nil => simp [Rows.uptoBulkAll]
  | cons x r ih => have := bulk_one x; simp only [Rows.uptoBulkAll, List.length_cons]; omega
theorem bulk_slice {H : Type} {enc : TypeId × Value → H} {P : Program} {W : World} {t e : TypeId} {fuel : Nat} {a : Option Addr} {n c : Nat} {x : DataW H × List MemPlace} (ht : P.underlying t = some (.slice e))
    (h : DataW.trod enc P W 0 (fun _ => true) true fuel t [.slice a n c] = some x) : n ≤ Rows.uptoBulk x.1 := by
  rcases Go.Deep.open_slice ht h with ⟨he, _⟩ | ⟨a', len, cap, m, n', D, Pl, he, _, hl, hm, hmm, hx, hel⟩
  · injection he with he _
    injection he with _ h2 _
    omega
  · injection he with he _
    injection he with _ h2 _
    rw [hx]
    simp only [Rows.uptoBulk]
    have := bulk_len ((List.range len).map D)
    rw [List.length_map, List.length_range] at this
    omega
theorem bulk_ints {H : Type} {enc : TypeId × Value → H} {W : World} {v : Value} {d : DataW H} {ps : List MemPlace} {xs : List Int} (hi : Ints W v xs) (h : DataW.Trod enc Try.prog W 0 (fun _ => true) true 22 v d ps) : xs.length ≤ Rows.uptoBulk d := by
  obtain ⟨fuel, hx⟩ := h
  obtain ⟨a, c, rfl⟩ := hi.form
  exact bulk_slice (x := (d, ps)) Try.underlying22 (by simpa [Value.cells] using hx)
theorem bulk_input {H : Type} {enc : TypeId × Value → H} {W : World} {v : Value} {d : DataW H} {ps : List MemPlace} {i : InputD} (hi : InputV W v i) (h : DataW.Trod enc Try.prog W 0 (fun _ => true) true 34 v d ps) : i.args.length + i.arrays.length ≤ Rows.uptoBulk d := by
  obtain ⟨fuel, hx⟩ := h
  obtain ⟨ua, ub, rfl, ha, hb⟩ := hi
  obtain ⟨a, c, rfl⟩ := ha.form
  obtain ⟨_, b, e, _, _, rfl, -, -, -, -, -, -⟩ := hb.parts
  obtain ⟨xs, n, _, hd, hl, hlen, hf⟩ := DataW.trod_struct Try.underlying34 hx
  match xs, hlen with
  | [x0, x1], _ =>
    have k0 := hf 0 _ rfl
    have k1 := hf 1 _ rfl
    have c1 : Try.prog.cellsOf 22 = 1 := by kernel_rfl
    have c2 : Try.prog.cellsOf 32 = 1 := by kernel_rfl
    have q0 := bulk_slice (x := x0) (a := a) (n := i.args.length) (c := c) Try.underlying22 (by simpa [Value.cells, c1] using k0)
    have q1 := bulk_slice (x := x1) (a := b) (n := i.arrays.length) (c := e) Try.underlying32 (by simpa [Value.cells, c2] using k1)
    injection hd with hd _
    rw [hd]
    simp only [Rows.uptoBulk, Rows.uptoBulkAll, List.map_cons, List.map_nil]
    omega
theorem bulk_three {H : Type} {a b c : DataW H} (hk : Rows.uptoSmall H [a, b, c] = true) : Rows.uptoBulk b + Rows.uptoBulk c ≤ 1048576 := by
  have h : Rows.uptoBulkAll [a, b, c] ≤ 1048576 := of_decide_eq_true hk
  simp only [Rows.uptoBulkAll] at h
  omega
end Go.Proofs.Ytjmikinbdclfbaa
