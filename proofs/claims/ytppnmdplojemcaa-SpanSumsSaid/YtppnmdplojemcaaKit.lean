/- What all later walks share, beside XLib: boxes of the call's own; what is below stays; a region that draws its order (XGrow). -/
import Derived.Test.YtppnmdplojemcaaLib
import Derived.Test.YtppnmdplojemcaaGrow
namespace Go.Proofs.Ytppnmdplojemcaa
set_option linter.unusedSimpArgs false
set_option linter.unusedVariables false
open Go.RowKit

theorem bcell {W w1 : World} (hb : Below W.heap.size W w1) : (∀ b o, b < W.heap.size → w1.cell? ⟨b, o, none⟩ = W.cell? ⟨b, o, none⟩) ∧ (∀ b o, b < W.heap.size → w1.frozen? ⟨b, o, none⟩ = W.frozen? ⟨b, o, none⟩) :=
  ⟨fun b o h => hb.cell (p := ⟨b, o, none⟩) h, fun b o h => hb.frozen (p := ⟨b, o, none⟩) h⟩

theorem same_below {P : Program} {f : FuncId} {args : Array Value} {w : World} {r : Ending} (h : Calls P f args w fun e w' => e = r ∧ w' = w) : Calls P f args w fun e w' => e = r ∧ Below w.heap.size w w' :=
  h.mono fun e w' ⟨he, hw⟩ => ⟨he, hw ▸ Below.refl _ _⟩

/-- A block of the call's own that holds these cells. -/
structure Box (W : World) (b : Nat) (A : Array Value) : Prop where
  lt : b < W.heap.size
  cell : ∀ o, W.cell? ⟨b, o, none⟩ = A[o]?
  free : ∀ o, W.frozen? ⟨b, o, none⟩ = false

theorem Box.new (w : World) (A : Array Value) (t : TypeId) : Box (w.alloc (.cells A t)) w.heap.size A := by
  refine ⟨by simp, fun o => ?_, fun o => ?_⟩
  · simp only [World.cell?]; rw [show (w.alloc (.cells A t)).heap[w.heap.size]? = some (.cells A t) from by show (w.heap.push _)[w.heap.size]? = _; simp]; simp
  · simp only [World.frozen?]; rw [show (w.alloc (.cells A t)).heap[w.heap.size]? = some (.cells A t) from by show (w.heap.push _)[w.heap.size]? = _; simp]; simp
theorem Box.later {W W' : World} {b : Nat} {A : Array Value} (h : Box W b A) (hb : Below W.heap.size W W') : Box W' b A :=
  ⟨Nat.lt_of_lt_of_le h.lt hb.size, fun o => (hb.cell (p := ⟨b, o, none⟩) h.lt).trans (h.cell o), fun o => (hb.frozen (p := ⟨b, o, none⟩) h.lt).trans (h.free o)⟩
theorem Box.alloc {W : World} {b : Nat} {A : Array Value} (h : Box W b A) (o : Obj) : Box (W.alloc o) b A := h.later ((Below.refl _ _).alloc (Nat.le_refl _) o)
theorem Box.drew {W : World} {b : Nat} {A : Array Value} (h : Box W b A) : Box W.drew b A := h.later (Below.refl _ _).drew
theorem Box.drewN {W : World} {b : Nat} {A : Array Value} (h : Box W b A) (n : Nat) : Box (W.drewN n) b A := h.later ⟨rfl, rfl, rfl, Nat.le_refl _, fun _ _ => rfl⟩
theorem Box.other {W : World} {b : Nat} {A : Array Value} (h : Box W b A) {p : Addr} (v : Value) (hp : b ≠ p.block) : Box (W.setCell p v) b A := by
  have hh := Below.heap_setCell W p v b hp
  exact ⟨by simpa [World.setCell] using h.lt, fun o => (World.cell?_of_block (w := W) (a := ⟨b, o, none⟩) hh).trans (h.cell o), fun o => (World.frozen?_of_block (w := W) (a := ⟨b, o, none⟩) hh).trans (h.free o)⟩
theorem Box.set {W : World} {b : Nat} {A : Array Value} (h : Box W b A) (i : Nat) (v : Value) : Box (W.setCell ⟨b, i, none⟩ v) b (A.setIfInBounds i v) := by
  have hlt := h.lt
  have e : ∃ c e f, W.heap[b]? = some (.cells c e f) ∨ ∀ o, W.cell? ⟨b, o, none⟩ = none := by
    cases hx : W.heap[b]? with
    | none => exact ⟨#[], 0, (0, 0), .inr fun o => by simp [World.cell?, hx]⟩
    | some x =>
      cases x with
      | cells c e f => exact ⟨c, e, f, .inl rfl⟩
      | _ => exact ⟨#[], 0, (0, 0), .inr fun o => by simp [World.cell?, hx]⟩
  obtain ⟨c, e, f, hx | hno⟩ := e
  · have hc : ∀ o, c[o]? = A[o]? := fun o => by have := h.cell o; simpa [World.cell?, hx] using this
    have hf : ∀ o, W.frozen? ⟨b, o, none⟩ = false := h.free
    refine ⟨by simpa [World.setCell] using hlt, fun o => ?_, fun o => ?_⟩
    · simp only [World.cell?, World.setCell, Array.getElem?_modify, hx]
      simp only [if_true, Option.map_some, Option.isSome_none, Bool.false_eq_true, if_false]
      by_cases hio : i = o
      · subst hio
        by_cases hs : i < c.size
        · have hs' : i < A.size := by
            have := hc i
            rw [Array.getElem?_eq_getElem hs] at this
            exact (Array.getElem?_eq_some_iff.1 this.symm).1
          simp [hs, hs']
        · have hs' : ¬ i < A.size := by
            have := hc i
            rw [Array.getElem?_eq_none (by omega)] at this
            have := Array.getElem?_eq_none_iff.1 this.symm
            omega
          simp [hs, hs', Array.getElem?_eq_none]
      · simp only [Array.getElem?_setIfInBounds_ne hio]
        exact hc o
    · have := hf o
      simp only [World.frozen?, World.setCell, Array.getElem?_modify, hx] at this ⊢
      simpa using this
  · have hA : A = #[] := by
      apply Array.ext_getElem?
      intro o
      rw [← h.cell o, hno o]; simp
    subst hA
    have hcell : ∀ o, (W.setCell ⟨b, i, none⟩ v).cell? ⟨b, o, none⟩ = none := fun o => by
      have := hno o
      simp only [World.cell?, World.setCell, Array.getElem?_modify, if_true] at this ⊢
      cases hx : W.heap[b]? with
      | none => simp
      | some x =>
        rw [hx] at this
        cases x with
        | cells c e f =>
          simp at this
          simp
          have hall : ∀ o, c.size ≤ o := fun o => by
            have := hno o
            simp only [World.cell?, hx] at this
            simpa using this
          have := hall 0
          omega
        | _ => simp
    refine ⟨by simpa [World.setCell] using hlt, fun o => by simpa using hcell o, fun o => ?_⟩
    have := h.free o
    simp only [World.frozen?, World.setCell, Array.getElem?_modify, if_true] at this ⊢
    cases hx : W.heap[b]? with
    | none => simp
    | some x =>
      rw [hx] at this
      cases x with
      | cells c e f => simpa using this
      | _ => simp
theorem Box.at {W : World} {b : Nat} {A : Array Value} (h : Box W b A) (o : Nat) {v : Value} (hv : A[o]? = some v) : W.cell? ⟨b, o, none⟩ = some v := (h.cell o).trans hv
end Go.Proofs.Ytppnmdplojemcaa
