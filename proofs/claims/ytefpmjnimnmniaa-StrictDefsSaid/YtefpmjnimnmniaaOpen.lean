/- How data that came in is opened: slices of anything, structs of two to four fields. -/
import Derived.Test.YtefpmjnimnmniaaKit
namespace Go.Proofs.Ytefpmjnimnmniaa
set_option linter.unusedSimpArgs false
set_option linter.unusedVariables false
open Go.RowKit Go.ChangeShapes Go.WideShapes Go.ChangeAt

/-- Cells that read at a type t are cells of an R. -/
def Opens {α : Type} (P : Program) (t : TypeId) (R : World → List Value → α → Prop) : Prop :=
  ∀ (H : Type) (enc : TypeId × Value → H) (W : World) (fuel : Nat) (cs : List Value) (x : DataW H × List MemPlace),
    DataW.trod enc P W 0 (fun _ => true) true fuel t cs = some x → (∀ n ∈ x.1.weights P t, n ≤ reachBytes) → ∃ y, R W cs y
def Lasting {α : Type} (R : World → List Value → α → Prop) : Prop := ∀ W W' cs x, R W cs x → Below W.heap.size W W' → R W' cs x

theorem Opens.mono {α β : Type} {P : Program} {t : TypeId} {R : World → List Value → α → Prop} {R' : World → List Value → β → Prop} (h : Opens P t R) (k : ∀ W cs y, R W cs y → ∃ z, R' W cs z) : Opens P t R' :=
  fun H enc W fuel cs x hx hw => let ⟨y, hy⟩ := h H enc W fuel cs x hx hw; k W cs y hy

def IntR (k : IntKind) (_ : World) (cs : List Value) (n : Int) : Prop := cs = [.int k n] ∧ (Lit.int k n).wf = true
def BoolR (_ : World) (cs : List Value) (b : Bool) : Prop := cs = [.bool b]
theorem opens_int {P : Program} {t : TypeId} {k : IntKind} (ht : P.underlying t = some (.int k)) : Opens P t (IntR k) := by
  intro H enc W fuel cs x hx _
  obtain ⟨n, rfl, _, hw⟩ := DataW.trod_int ht hx
  exact ⟨n, rfl, hw⟩
theorem opens_bool {P : Program} {t : TypeId} (ht : P.underlying t = some .bool) : Opens P t BoolR := by
  intro H enc W fuel cs x hx _
  obtain ⟨b, rfl, _⟩ := DataW.trod_bool ht hx
  exact ⟨b, rfl⟩
theorem IntR.lasting {k : IntKind} : Lasting (IntR k) := fun _ _ _ _ h _ => h
theorem BoolR.lasting : Lasting BoolR := fun _ _ _ _ h _ => h

/-- v is a slice whose elements, of so many cells each, are an R each. -/
def SliceOf {α : Type} (R : World → List Value → α → Prop) (size : Nat) (W : World) (v : Value) (xs : List α) : Prop :=
  ∃ cs : List Value, Row W v xs.length size cs ∧ ∀ j x, xs[j]? = some x → R W ((cs.drop (j * size)).take size) x
def SliceR {α : Type} (R : World → List Value → α → Prop) (size : Nat) (W : World) (cs : List Value) (xs : List α) : Prop := ∃ v, cs = [v] ∧ SliceOf R size W v xs

theorem SliceOf.below {α : Type} {R : World → List Value → α → Prop} (hR : Lasting R) {size : Nat} {W W' : World} {v : Value} {xs : List α} (h : SliceOf R size W v xs) (hb : Below W.heap.size W W') : SliceOf R size W' v xs := by
  obtain ⟨cs, h1, h2⟩ := h
  exact ⟨cs, h1.below hb, fun j x hj => hR _ _ _ _ (h2 j x hj) hb⟩
theorem SliceR.lasting {α : Type} {R : World → List Value → α → Prop} (hR : Lasting R) {size : Nat} : Lasting (SliceR R size) := fun _ _ _ _ ⟨v, h1, h2⟩ hb => ⟨v, h1, h2.below hR hb⟩
theorem SliceOf.nil {α : Type} {R : World → List Value → α → Prop} {size : Nat} {W : World} : SliceOf R size W (.slice none 0 0) ([] : List α) := ⟨[], Row.nil, by simp⟩
theorem SliceOf.le {α : Type} {R : World → List Value → α → Prop} {size : Nat} {W : World} {v : Value} {xs : List α} (h : SliceOf R size W v xs) : xs.length ≤ 17592186044416 := by obtain ⟨cs, h1, _⟩ := h; exact h1.big
/-- What a walk wants of a slice: its form, its address where it is not empty, the cells of each element. -/
theorem SliceOf.parts {α : Type} {R : World → List Value → α → Prop} {size : Nat} {W : World} {v : Value} {xs : List α} (hs : 0 < size) (h : SliceOf R size W v xs) :
    ∃ a cap b off, v = .slice a xs.length cap ∧ xs.length ≤ cap ∧ cap ≤ 9223372036854775807 ∧ xs.length ≤ 17592186044416 ∧ (0 < xs.length → a = some ⟨b, off, none⟩ ∧ b < W.heap.size) ∧
      ∀ j x, xs[j]? = some x → ∃ ds, R W ds x ∧ ds.length = size ∧ ∀ i u, ds[i]? = some u → W.cell? ⟨b, off + j * size + i, none⟩ = some u := by
  obtain ⟨cs, h1, h2⟩ := h
  have hl := h1.len
  obtain ⟨a, cap, b, off, hv, k1, k2, k3, k4⟩ := h1.parts
  refine ⟨a, cap, b, off, hv, k1, by unfold maxLen at k2; omega, h1.big, fun hp => k3 (by rw [hl]; exact Nat.mul_pos hp hs), fun j x hj => ⟨_, h2 j x hj, ?_, fun i u hi => ?_⟩⟩
  · have hjl := (List.getElem?_eq_some_iff.1 hj).1
    rw [List.length_take, List.length_drop, hl]
    have : (j + 1) * size ≤ xs.length * size := Nat.mul_le_mul_right _ hjl
    rw [Nat.add_mul, Nat.one_mul] at this
    omega
  · rw [List.getElem?_take] at hi
    split at hi
    · rw [List.getElem?_drop] at hi
      rw [Nat.add_assoc]; exact k4 _ _ hi
    · cases hi

theorem exists_list {α : Type} (n : Nat) (p : Nat → α → Prop) (h : ∀ i, i < n → ∃ x, p i x) : ∃ l : List α, l.length = n ∧ ∀ i x, l[i]? = some x → p i x := by
  induction n with
  | zero => exact ⟨[], rfl, by simp⟩
  | succ n ih =>
    obtain ⟨l, h1, h2⟩ := ih fun i hi => h i (by omega)
    obtain ⟨x, hx⟩ := h n (by omega)
    refine ⟨l ++ [x], by simp [h1], fun i y hy => ?_⟩
    by_cases hi : i < n
    · rw [List.getElem?_append_left (by omega)] at hy; exact h2 i y hy
    · have hlt := (List.getElem?_eq_some_iff.1 hy).1
      simp [h1] at hlt
      obtain rfl : i = n := by omega
      rw [List.getElem?_append_right (by omega)] at hy
      simp [h1] at hy
      subst hy; exact hx

theorem opens_slice {α : Type} {P : Program} {t e : TypeId} {size B : Nat} {R : World → List Value → α → Prop} (ht : P.underlying t = some (.slice e)) (hc : P.cellsOf e = size) (hb : P.bytesOf e = B) (hs : 0 < size) (hB : 8 ≤ B) (hR : Opens P e R) :
    Opens P t (SliceR R size) := by
  intro H enc W fuel cs x hx hw
  rcases Go.Deep.open_slice ht hx with ⟨rfl, rfl⟩ | ⟨a, len, cap, m, n, D, Pl, rfl, _, hl, hm, hmm, rfl, hel⟩
  · exact ⟨[], _, rfl, SliceOf.nil⟩
  · simp only [if_true] at hmm
    subst hmm
    rw [hc] at hel
    have hwt := hw ((len + (m - len)) * B) (by simp [DataW.weights, ht, hb])
    have hlen : len ≤ 17592186044416 := by
      have : (len + (m - len)) * 8 ≤ (len + (m - len)) * B := Nat.mul_le_mul_left _ hB
      simp only [reachBytes] at hwt
      omega
    have each : ∀ i, i < len → ∃ q : List Value × α, W.cells? 0 (a.add (i * size)) size = some q.1 ∧ R W q.1 q.2 := fun i hi => by
      obtain ⟨cs', h1, h2⟩ := hel i (by omega)
      obtain ⟨y, hy⟩ := hR H enc W n cs' _ h2 (fun k hk => hw k (by
        simp only [DataW.weights, ht, List.mem_cons, List.mem_append]
        exact .inr (.inl (weightsAll_mem (d := D i) (List.mem_map.2 ⟨i, by simpa using hi, rfl⟩) _ hk))))
      exact ⟨(cs', y), h1, hy⟩
    obtain ⟨l, hll, hl2⟩ := exists_list len _ each
    have cell : ∀ j q r, l[j]? = some q → r < size → W.cell? (a.add (j * size + r)) = q.1[r]? ∧ q.1.length = size := fun j q r hj hr => by
      obtain ⟨_, h2, h3⟩ := World.cells?_some (hl2 j q hj).1
      have := h3 r hr
      rw [add_add] at this
      exact ⟨this, h2⟩
    refine ⟨l.map (·.2), _, rfl, (List.range (len * size)).map (fun k => (W.cell? (a.add k)).getD undef), ⟨by simp [hll], by simp [hll, hlen], some a, m, by simp [hll], by simp [hll]; omega, hm, by simp, fun ad ha j u hj => ?_⟩, fun j x hj => ?_⟩
    · cases ha
      have hjl := (List.getElem?_eq_some_iff.1 hj).1
      simp at hjl
      have hjd : j / size < len := (Nat.div_lt_iff_lt_mul hs).2 hjl
      have hq := List.getElem?_eq_getElem (l := l) (i := j / size) (by omega)
      obtain ⟨h1, h2⟩ := cell (j / size) _ (j % size) hq (Nat.mod_lt _ hs)
      have he : j / size * size + j % size = j := by rw [Nat.mul_comm]; exact Nat.div_add_mod _ _
      rw [he] at h1
      rw [List.getElem?_eq_getElem (by rw [h2]; exact Nat.mod_lt _ hs)] at h1
      simp [hjl, h1] at hj
      rw [h1, hj]
    · rw [List.getElem?_map] at hj
      cases hq : l[j]? with
      | none => rw [hq] at hj; cases hj
      | some q =>
        rw [hq] at hj
        simp at hj
        subst hj
        have hjl := (List.getElem?_eq_some_iff.1 hq).1
        have hm2 : (j + 1) * size ≤ len * size := Nat.mul_le_mul_right _ (by omega)
        rw [Nat.add_mul, Nat.one_mul] at hm2
        have e : (((List.range (len * size)).map (fun k => (W.cell? (a.add k)).getD undef)).drop (j * size)).take size = q.1 := by
          obtain ⟨_, h2, _⟩ := World.cells?_some (hl2 j q hq).1
          apply List.ext_getElem?
          intro r
          rw [List.getElem?_take]
          by_cases hr : r < size
          · rw [if_pos hr, List.getElem?_drop, List.getElem?_map, List.getElem?_range (by omega)]
            simp only [Option.map_some]
            rw [(cell j q r hq hr).1, List.getElem?_eq_getElem (by omega)]
            rfl
          · rw [if_neg hr, List.getElem?_eq_none (by omega)]
        rw [e]; exact (hl2 j q hq).2

/-- A value that came in. -/
theorem open_val {α : Type} {H : Type} {enc : TypeId × Value → H} {P : Program} {W : World} {t : TypeId} {v : Value} {d : DataW H} {ps : List MemPlace} {R : World → List Value → α → Prop} (hR : Opens P t R)
    (h : DataW.Trod enc P W 0 (fun _ => true) true t v d ps) (hz : ∀ n ∈ d.weights P t, n ≤ reachBytes) : ∃ y, R W v.cells.toList y := by
  obtain ⟨fuel, hf⟩ := h
  exact hR H enc W fuel _ _ hf hz
theorem open_slice_val {α : Type} {H : Type} {enc : TypeId × Value → H} {P : Program} {W : World} {t e : TypeId} {v : Value} {d : DataW H} {ps : List MemPlace} {R : World → List Value → α → Prop} {size base : Nat} (ht : P.underlying t = some (.slice e)) (hR : Opens P t (SliceR R size))
    (hval : Value.okWide P W .any base t v) (h : DataW.Trod enc P W 0 (fun _ => true) true t v d ps) (hz : ∀ n ∈ d.weights P t, n ≤ reachBytes) : ∃ xs, SliceOf R size W v xs := by
  obtain ⟨xs, u, hu, hs⟩ := open_val hR h hz
  obtain ⟨a, n, c, rfl⟩ := okWide_slice ht hval
  simp [Value.cells] at hu
  subst hu
  exact ⟨xs, hs⟩
theorem open_struct_val {α : Type} {H : Type} {enc : TypeId × Value → H} {P : Program} {W : World} {t : TypeId} {fs : Array Field} {v : Value} {d : DataW H} {ps : List MemPlace} {R : World → List Value → α → Prop} {base : Nat} (ht : P.underlying t = some (.struct fs)) (hR : Opens P t R)
    (hval : Value.okWide P W .any base t v) (h : DataW.Trod enc P W 0 (fun _ => true) true t v d ps) (hz : ∀ n ∈ d.weights P t, n ≤ reachBytes) : ∃ cs x, v = .agg cs ∧ R W cs.toList x := by
  obtain ⟨x, hx⟩ := open_val hR h hz
  obtain ⟨cs, rfl, _⟩ := okWide_struct ht hval
  exact ⟨cs, x, rfl, hx⟩

def StructR2 {α0 α1 : Type} (R0 : World → List Value → α0 → Prop) (R1 : World → List Value → α1 → Prop) (s : Nat) (W : World) (cs : List Value) (y : α0 × α1) : Prop :=
  ∃ d0 d1 : List Value, cs = d0 ++ d1 ∧ cs.length = s ∧ R0 W d0 y.1 ∧ R1 W d1 y.2
theorem opens_struct2 {α0 α1 : Type} {P : Program} {t : TypeId} {f0 f1 : Field} {s0 s1 : Nat} {R0 : World → List Value → α0 → Prop} {R1 : World → List Value → α1 → Prop} (ht : P.underlying t = some (.struct #[f0, f1])) (hC : P.cellsOf t = s0 + s1) (o0 : f0.offset = 0) (o1 : f1.offset = s0) (c0 : P.cellsOf f0.type = s0) (c1 : P.cellsOf f1.type = s1) (h0 : Opens P f0.type R0) (h1 : Opens P f1.type R1) :
    Opens P t (StructR2 R0 R1 (s0 + s1)) := by
  intro H enc W fuel cs x hx hw
  obtain ⟨xs, n, _, rfl, hl, hlen, hf⟩ := DataW.trod_struct ht hx
  match xs, hlen with
  | [x0, x1], _ =>
    have k0 := hf 0 f0 rfl
    rw [o0, c0] at k0
    obtain ⟨y0, r0⟩   := h0 H enc W n _ x0 (by simpa using k0) (fun m hm => hw m (by simp only [DataW.weights, ht]; exact DataW.weights_mem_each (j := 0) (t := f0.type) (d := x0.1) rfl rfl m hm))
    have k1 := hf 1 f1 rfl
    rw [o1, c1] at k1
    obtain ⟨y1, r1⟩   := h1 H enc W n _ x1 (by simpa using k1) (fun m hm => hw m (by simp only [DataW.weights, ht]; exact DataW.weights_mem_each (j := 1) (t := f1.type) (d := x1.1) rfl rfl m hm))
    refine ⟨(y0, y1), (cs.drop 0).take s0, (cs.drop (s0)).take s1, ?_, hl.trans hC, r0, r1⟩
    rw [hC] at hl
    apply List.ext_getElem?
    intro j
    simp only [List.drop_zero, List.getElem?_append, List.length_take, List.length_drop, List.getElem?_take, List.getElem?_drop]
    (repeat' split) <;> first | (congr 1; omega) | (rw [List.getElem?_eq_none (by omega)]) | omega | rfl
theorem StructR2.lasting {α0 α1 : Type} {R0 : World → List Value → α0 → Prop} {R1 : World → List Value → α1 → Prop} {s : Nat} (h0 : Lasting R0) (h1 : Lasting R1) : Lasting (StructR2 R0 R1 s) :=
  fun _ _ _ _ ⟨d0, d1, e, hl, r0, r1⟩ hb => ⟨d0, d1, e, hl, h0 _ _ _ _ r0 hb, h1 _ _ _ _ r1 hb⟩

def StructR3 {α0 α1 α2 : Type} (R0 : World → List Value → α0 → Prop) (R1 : World → List Value → α1 → Prop) (R2 : World → List Value → α2 → Prop) (s : Nat) (W : World) (cs : List Value) (y : α0 × α1 × α2) : Prop :=
  ∃ d0 d1 d2 : List Value, cs = d0 ++ (d1 ++ d2) ∧ cs.length = s ∧ R0 W d0 y.1 ∧ R1 W d1 y.2.1 ∧ R2 W d2 y.2.2
theorem opens_struct3 {α0 α1 α2 : Type} {P : Program} {t : TypeId} {f0 f1 f2 : Field} {s0 s1 s2 : Nat} {R0 : World → List Value → α0 → Prop} {R1 : World → List Value → α1 → Prop} {R2 : World → List Value → α2 → Prop} (ht : P.underlying t = some (.struct #[f0, f1, f2])) (hC : P.cellsOf t = s0 + s1 + s2) (o0 : f0.offset = 0) (o1 : f1.offset = s0) (o2 : f2.offset = s0 + s1) (c0 : P.cellsOf f0.type = s0) (c1 : P.cellsOf f1.type = s1) (c2 : P.cellsOf f2.type = s2) (h0 : Opens P f0.type R0) (h1 : Opens P f1.type R1) (h2 : Opens P f2.type R2) :
    Opens P t (StructR3 R0 R1 R2 (s0 + s1 + s2)) := by
  intro H enc W fuel cs x hx hw
  obtain ⟨xs, n, _, rfl, hl, hlen, hf⟩ := DataW.trod_struct ht hx
  match xs, hlen with
  | [x0, x1, x2], _ =>
    have k0 := hf 0 f0 rfl
    rw [o0, c0] at k0
    obtain ⟨y0, r0⟩   := h0 H enc W n _ x0 (by simpa using k0) (fun m hm => hw m (by simp only [DataW.weights, ht]; exact DataW.weights_mem_each (j := 0) (t := f0.type) (d := x0.1) rfl rfl m hm))
    have k1 := hf 1 f1 rfl
    rw [o1, c1] at k1
    obtain ⟨y1, r1⟩   := h1 H enc W n _ x1 (by simpa using k1) (fun m hm => hw m (by simp only [DataW.weights, ht]; exact DataW.weights_mem_each (j := 1) (t := f1.type) (d := x1.1) rfl rfl m hm))
    have k2 := hf 2 f2 rfl
    rw [o2, c2] at k2
    obtain ⟨y2, r2⟩   := h2 H enc W n _ x2 (by simpa using k2) (fun m hm => hw m (by simp only [DataW.weights, ht]; exact DataW.weights_mem_each (j := 2) (t := f2.type) (d := x2.1) rfl rfl m hm))
    refine ⟨(y0, y1, y2), (cs.drop 0).take s0, (cs.drop (s0)).take s1, (cs.drop (s0 + s1)).take s2, ?_, hl.trans hC, r0, r1, r2⟩
    rw [hC] at hl
    apply List.ext_getElem?
    intro j
    simp only [List.drop_zero, List.getElem?_append, List.length_take, List.length_drop, List.getElem?_take, List.getElem?_drop]
    (repeat' split) <;> first | (congr 1; omega) | (rw [List.getElem?_eq_none (by omega)]) | omega | rfl
theorem StructR3.lasting {α0 α1 α2 : Type} {R0 : World → List Value → α0 → Prop} {R1 : World → List Value → α1 → Prop} {R2 : World → List Value → α2 → Prop} {s : Nat} (h0 : Lasting R0) (h1 : Lasting R1) (h2 : Lasting R2) : Lasting (StructR3 R0 R1 R2 s) :=
  fun _ _ _ _ ⟨d0, d1, d2, e, hl, r0, r1, r2⟩ hb => ⟨d0, d1, d2, e, hl, h0 _ _ _ _ r0 hb, h1 _ _ _ _ r1 hb, h2 _ _ _ _ r2 hb⟩

def StructR4 {α0 α1 α2 α3 : Type} (R0 : World → List Value → α0 → Prop) (R1 : World → List Value → α1 → Prop) (R2 : World → List Value → α2 → Prop) (R3 : World → List Value → α3 → Prop) (s : Nat) (W : World) (cs : List Value) (y : α0 × α1 × α2 × α3) : Prop :=
  ∃ d0 d1 d2 d3 : List Value, cs = d0 ++ (d1 ++ (d2 ++ d3)) ∧ cs.length = s ∧ R0 W d0 y.1 ∧ R1 W d1 y.2.1 ∧ R2 W d2 y.2.2.1 ∧ R3 W d3 y.2.2.2
theorem opens_struct4 {α0 α1 α2 α3 : Type} {P : Program} {t : TypeId} {f0 f1 f2 f3 : Field} {s0 s1 s2 s3 : Nat} {R0 : World → List Value → α0 → Prop} {R1 : World → List Value → α1 → Prop} {R2 : World → List Value → α2 → Prop} {R3 : World → List Value → α3 → Prop} (ht : P.underlying t = some (.struct #[f0, f1, f2, f3])) (hC : P.cellsOf t = s0 + s1 + s2 + s3) (o0 : f0.offset = 0) (o1 : f1.offset = s0) (o2 : f2.offset = s0 + s1) (o3 : f3.offset = s0 + s1 + s2) (c0 : P.cellsOf f0.type = s0) (c1 : P.cellsOf f1.type = s1) (c2 : P.cellsOf f2.type = s2) (c3 : P.cellsOf f3.type = s3) (h0 : Opens P f0.type R0) (h1 : Opens P f1.type R1) (h2 : Opens P f2.type R2) (h3 : Opens P f3.type R3) :
    Opens P t (StructR4 R0 R1 R2 R3 (s0 + s1 + s2 + s3)) := by
  intro H enc W fuel cs x hx hw
  obtain ⟨xs, n, _, rfl, hl, hlen, hf⟩ := DataW.trod_struct ht hx
  match xs, hlen with
  | [x0, x1, x2, x3], _ =>
    have k0 := hf 0 f0 rfl
    rw [o0, c0] at k0
    obtain ⟨y0, r0⟩   := h0 H enc W n _ x0 (by simpa using k0) (fun m hm => hw m (by simp only [DataW.weights, ht]; exact DataW.weights_mem_each (j := 0) (t := f0.type) (d := x0.1) rfl rfl m hm))
    have k1 := hf 1 f1 rfl
    rw [o1, c1] at k1
    obtain ⟨y1, r1⟩   := h1 H enc W n _ x1 (by simpa using k1) (fun m hm => hw m (by simp only [DataW.weights, ht]; exact DataW.weights_mem_each (j := 1) (t := f1.type) (d := x1.1) rfl rfl m hm))
    have k2 := hf 2 f2 rfl
    rw [o2, c2] at k2
    obtain ⟨y2, r2⟩   := h2 H enc W n _ x2 (by simpa using k2) (fun m hm => hw m (by simp only [DataW.weights, ht]; exact DataW.weights_mem_each (j := 2) (t := f2.type) (d := x2.1) rfl rfl m hm))
    have k3 := hf 3 f3 rfl
    rw [o3, c3] at k3
    obtain ⟨y3, r3⟩   := h3 H enc W n _ x3 (by simpa using k3) (fun m hm => hw m (by simp only [DataW.weights, ht]; exact DataW.weights_mem_each (j := 3) (t := f3.type) (d := x3.1) rfl rfl m hm))
    refine ⟨(y0, y1, y2, y3), (cs.drop 0).take s0, (cs.drop (s0)).take s1, (cs.drop (s0 + s1)).take s2, (cs.drop (s0 + s1 + s2)).take s3, ?_, hl.trans hC, r0, r1, r2, r3⟩
    rw [hC] at hl
    apply List.ext_getElem?
    intro j
    simp only [List.drop_zero, List.getElem?_append, List.length_take, List.length_drop, List.getElem?_take, List.getElem?_drop]
    (repeat' split) <;> first | (congr 1; omega) | (rw [List.getElem?_eq_none (by omega)]) | omega | rfl
theorem StructR4.lasting {α0 α1 α2 α3 : Type} {R0 : World → List Value → α0 → Prop} {R1 : World → List Value → α1 → Prop} {R2 : World → List Value → α2 → Prop} {R3 : World → List Value → α3 → Prop} {s : Nat} (h0 : Lasting R0) (h1 : Lasting R1) (h2 : Lasting R2) (h3 : Lasting R3) : Lasting (StructR4 R0 R1 R2 R3 s) :=
  fun _ _ _ _ ⟨d0, d1, d2, d3, e, hl, r0, r1, r2, r3⟩ hb => ⟨d0, d1, d2, d3, e, hl, h0 _ _ _ _ r0 hb, h1 _ _ _ _ r1 hb, h2 _ _ _ _ r2 hb, h3 _ _ _ _ r3 hb⟩
end Go.Proofs.Ytefpmjnimnmniaa
