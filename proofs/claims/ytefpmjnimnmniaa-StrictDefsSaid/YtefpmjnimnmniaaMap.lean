/- Maps with whole numbers for keys, as lists of pairs; what a call changes that is not new. -/
import Derived.Test.YtefpmjnimnmniaaOwn
import Derived.Maps.OwnSet
namespace Go.Proofs.Ytefpmjnimnmniaa
set_option linter.unusedSimpArgs false
set_option linter.unusedVariables false
open Go.RowKit

/-- Of what was there only the blocks bs may have been turned. -/
structure Turn (bs : List Nat) (w w' : World) : Prop where
  os : w'.os = w.os
  tape : w'.tape = w.tape
  output : w'.output = w.output
  size : w.heap.size ≤ w'.heap.size
  block : ∀ k, k < w.heap.size → k ∉ bs → w'.heap[k]? = w.heap[k]?
theorem Turn.of_below {w w' : World} (h : Below w.heap.size w w') (bs : List Nat) : Turn bs w w' := ⟨h.os, h.tape, h.output, h.size, fun k hk _ => h.block k hk⟩
theorem Turn.refl (bs : List Nat) (w : World) : Turn bs w w := ⟨rfl, rfl, rfl, Nat.le_refl _, fun _ _ _ => rfl⟩
theorem Turn.trans {bs : List Nat} {a b c : World} (h : Turn bs a b) (k : Turn bs b c) : Turn bs a c :=
  ⟨k.os.trans h.os, k.tape.trans h.tape, k.output.trans h.output, Nat.le_trans h.size k.size, fun i hi hn => (k.block i (Nat.lt_of_lt_of_le hi h.size) hn).trans (h.block i hi hn)⟩
theorem Turn.more {bs bs' : List Nat} {a b : World} (h : Turn bs a b) (hb : ∀ x ∈ bs, x ∈ bs') : Turn bs' a b := ⟨h.os, h.tape, h.output, h.size, fun k hk hn => h.block k hk fun hm => hn (hb k hm)⟩
/-- What is turned lies above: below all is as it was. -/
theorem Turn.below {bs : List Nat} {a b : World} (h : Turn bs a b) {B : Nat} (hB : B ≤ a.heap.size) (hb : ∀ x ∈ bs, B ≤ x) : Below B a b :=
  ⟨h.os, h.tape, h.output, h.size, fun k hk => h.block k (by omega) fun hm => by have := hb k hm; omega⟩
theorem Box.turn {W W' : World} {bs : List Nat} {b : Nat} {A : Array Value} (h : Box W b A) (ht : Turn bs W W') (hb : b ∉ bs) : Box W' b A := by
  have hh := ht.block b h.lt hb
  exact ⟨Nat.lt_of_lt_of_le h.lt ht.size, fun o => (World.cell?_of_block (w := W) (a := ⟨b, o, none⟩) hh).trans (h.cell o), fun o => (World.frozen?_of_block (w := W) (a := ⟨b, o, none⟩) hh).trans (h.free o)⟩

/-- Block b is a map that holds just these pairs. -/
structure IMap (W : World) (b : Nat) (m : List (Int × Value)) : Prop where
  ex : ∃ es clock, W.heap[b]? = some (.map es clock) ∧ es.toList.map (fun e => (e.key, e.val)) = m.map (fun p => (Value.int .i64 p.1, p.2)) ∧ (es.toList.map (·.born)).Nodup ∧ ∀ e ∈ es.toList, e.born < clock
  nodup : (m.map (·.1)).Nodup

theorem IMap.lt {W : World} {b : Nat} {m : List (Int × Value)} (h : IMap W b m) : b < W.heap.size := by
  obtain ⟨es, c, hh, _⟩ := h.ex
  exact (Array.getElem?_eq_some_iff.1 hh).1
theorem IMap.keep {W W' : World} {b : Nat} {m : List (Int × Value)} (h : IMap W b m) (hb : W'.heap[b]? = W.heap[b]?) : IMap W' b m := by
  obtain ⟨es, c, hh, r⟩ := h.ex
  exact ⟨⟨es, c, hb.trans hh, r⟩, h.nodup⟩
theorem IMap.later {W W' : World} {b : Nat} {m : List (Int × Value)} (h : IMap W b m) (hb : Below W.heap.size W W') : IMap W' b m := h.keep (hb.block b h.lt)
theorem IMap.turn {W W' : World} {bs : List Nat} {b : Nat} {m : List (Int × Value)} (h : IMap W b m) (ht : Turn bs W W') (hb : b ∉ bs) : IMap W' b m := h.keep (ht.block b h.lt hb)
theorem IMap.new (w : World) : IMap (w.alloc (.map #[] 0)) w.heap.size [] := by
  refine ⟨⟨#[], 0, ?_, rfl, by simp, by simp⟩, by simp⟩
  show (w.heap.push _)[w.heap.size]? = _
  simp

def mget (m : List (Int × Value)) (k : Int) : Option Value := (m.find? (fun p => p.1 == k)).map (·.2)
def mput (m : List (Int × Value)) (k : Int) (v : Value) : List (Int × Value) := if (mget m k).isSome then m.map (fun p => if p.1 = k then (k, v) else p) else m ++ [(k, v)]

theorem mget_none {m : List (Int × Value)} {k : Int} : mget m k = none ↔ k ∉ m.map (·.1) := by
  unfold mget
  rw [Option.map_eq_none_iff, List.find?_eq_none]
  simp only [List.mem_map, not_exists, not_and]
  constructor
  · intro h p hp e; exact h p hp (by simp [e])
  · intro h p hp e; exact h p hp (by simpa using e)
theorem mget_some {m : List (Int × Value)} {k : Int} {v : Value} (h : mget m k = some v) : (k, v) ∈ m := by
  unfold mget at h
  cases hf : m.find? (fun p => p.1 == k) with
  | none => rw [hf] at h; cases h
  | some p =>
    rw [hf] at h
    simp at h
    have h1 := List.mem_of_find?_eq_some hf
    have h2 := List.find?_some hf
    simp at h2
    rw [← h, ← h2]; exact h1

theorem findNow_ints (q : IntKind) (k : Int) : ∀ (l : List MapEntry) (m : List (Int × Value)) (i : Nat), l.map (fun e => (e.key, e.val)) = m.map (fun p => (Value.int .i64 p.1, p.2)) →
    Instr.findNow (.int q) (.int .i64 k) l i = some ((m.findIdx? (fun p => p.1 == k)).bind fun j => (m[j]?).map fun p => (i + j, p.2))
  | [], m, i, h => by
    cases m with
    | nil => rfl
    | cons => simp at h
  | e :: l, m, i, h => by
    cases m with
    | nil => simp at h
    | cons p m =>
      simp only [List.map_cons, List.cons.injEq, Prod.mk.injEq] at h
      obtain ⟨⟨h1, h2⟩, h3⟩ := h
      simp only [Instr.findNow, h1, Instr.sameNow, if_true]
      by_cases e1 : k = p.1
      · subst e1
        simp [List.findIdx?_cons, h2]
      · have hb : (k == p.1) = false := by simpa using e1
        have hb' : (p.1 == k) = false := by simpa using fun e => e1 e.symm
        rw [hb]
        simp only
        rw [findNow_ints q k l m (i + 1) h3]
        simp only [List.findIdx?_cons, hb', Bool.false_eq_true, if_false]
        cases m.findIdx? (fun p => p.1 == k) with
        | none => rfl
        | some j => simp [Nat.add_comm, Nat.add_left_comm]

theorem mget_idx (m : List (Int × Value)) (k : Int) : mget m k = (m.findIdx? (fun p => p.1 == k)).bind fun j => (m[j]?).map (·.2) := by
  unfold mget
  induction m with
  | nil => rfl
  | cons p m ih =>
    by_cases e : (p.1 == k) = true
    · simp [List.find?_cons, List.findIdx?_cons, e]
    · simp only [Bool.not_eq_true] at e
      simp only [List.find?_cons, e, List.findIdx?_cons, Bool.false_eq_true, if_false]
      rw [ih]
      cases m.findIdx? (fun p => p.1 == k) with
      | none => rfl
      | some j => simp

section
variable {P : Program} {w : World}

theorem checkKey_int {k : TypeId} {q : IntKind} (hk : P.underlying k = some (.int q)) (empty : Bool) (x : Int) : (Instr.checkKey empty 10000 k (.int .i64 x)).run P w = .ok () w := by
  unfold Instr.checkKey
  simp [run_underlying hk, Sem.run_bind, Result.andThen]

theorem findKey_run {k : TypeId} {q : IntKind} (hk : P.underlying k = some (.int q)) (x : Int) {l : List MapEntry} {m : List (Int × Value)} (h : l.map (fun e => (e.key, e.val)) = m.map (fun p => (Value.int .i64 p.1, p.2))) :
    (Instr.findKey k (.int .i64 x) l).run P w = .ok ((m.findIdx? (fun p => p.1 == x)).bind fun j => (m[j]?).map fun p => (j, p.2)) w := by
  unfold Instr.findKey
  simp only [Sem.run_bind, run_underlying hk, Result.andThen, findNow_ints q x l m 0 h, Nat.zero_add]
  rfl

theorem IMap.lookup {t k e : TypeId} {q : IntKind} {b : Nat} {m : List (Int × Value)} (h : IMap w b m) (ht : P.underlying t = some (.map k e)) (hk : P.underlying k = some (.int q)) {z : Value} (hz : (zeroValue e).run P w = .ok z w) (x : Int) :
    (Instr.lookup t (.map (some b)) (.int .i64 x) true).run P w = .ok (.tuple #[(mget m x).getD z, .bool (mget m x).isSome]) w := by
  obtain ⟨es, c, hh, hm, _⟩ := h.ex
  have hf := findKey_run (P := P) (w := w) hk x hm
  unfold Instr.lookup
  have hg : (Sem.getObj b Sem.pure : Sem Obj).run P w = .ok (.map es c) w := by simp [Sem.run, hh]
  rw [mget_idx]
  simp only [Sem.run_bind, run_underlying ht, Result.andThen, getObj, hg, Sem.run_pure, checkKey_int hk, hf]
  cases hi : (m.findIdx? (fun p => p.1 == x)) with
  | none => simp [hz, Result.andThen, Sem.run_pure]
  | some j =>
    simp only [Option.bind_some]
    cases hj : m[j]? with
    | none => simp [hz, Result.andThen, Sem.run_pure]
    | some p => simp [Result.andThen, Sem.run_pure]

theorem mget_found {m : List (Int × Value)} {k : Int} {j : Nat} (h : m.findIdx? (fun p => p.1 == k) = some j) : ∃ p, m[j]? = some p ∧ p.1 = k ∧ j < m.length := by
  obtain ⟨hlt, h1, _⟩ := List.findIdx?_eq_some_iff_getElem.1 h
  exact ⟨m[j], List.getElem?_eq_getElem hlt, by simpa using h1, hlt⟩

theorem mput_keys {m : List (Int × Value)} {k : Int} {v : Value} : (mput m k v).map (·.1) = if (mget m k).isSome then m.map (·.1) else m.map (·.1) ++ [k] := by
  unfold mput
  split
  · rw [List.map_map]
    apply List.map_congr_left
    intro p _
    simp only [Function.comp]
    split
    · rename_i h; exact h.symm
    · rfl
  · simp
theorem mput_nodup {m : List (Int × Value)} {k : Int} {v : Value} (h : (m.map (·.1)).Nodup) : ((mput m k v).map (·.1)).Nodup := by
  rw [mput_keys]
  cases hg : mget m k with
  | some u => simpa using h
  | none =>
    have := mget_none.1 hg
    simp only [Option.isSome_none, Bool.false_eq_true, if_false]
    rw [List.nodup_append]
    refine ⟨h, by simp, fun a ha b hb => ?_⟩
    simp at hb
    subst hb
    exact fun e => this (e ▸ ha)

theorem mget_mput (m : List (Int × Value)) (k j : Int) (v : Value) : mget (mput m k v) j = if j = k then some v else mget m j := by
  unfold mput
  cases hg : mget m k with
  | none =>
    simp only [Option.isSome_none, Bool.false_eq_true, if_false]
    unfold mget at *
    rw [List.find?_append]
    by_cases e : j = k
    · subst e
      have : m.find? (fun p => p.1 == j) = none := by simpa using hg
      simp [this]
    · rw [if_neg e]
      have : ([(k, v)] : List (Int × Value)).find? (fun p => p.1 == j) = none := by simp; exact fun h => e h.symm
      rw [this, Option.or_none]
  | some u =>
    simp only [Option.isSome_some, if_true]
    unfold mget at *
    rw [List.find?_map]
    have hc : ((fun p : Int × Value => p.1 == j) ∘ fun p => if p.1 = k then (k, v) else p) = fun p => p.1 == j := by
      funext p
      simp only [Function.comp]
      split
      · rename_i h; rw [h]
      · rfl
    rw [hc]
    cases hf : m.find? (fun p => p.1 == j) with
    | none =>
      by_cases e : j = k
      · subst e; rw [hf] at hg; cases hg
      · simp [e]
    | some p =>
      have h2 := List.find?_some hf
      simp at h2
      by_cases e : j = k
      · subst e; simp [h2]
      · simp [e, h2]

theorem IMap.update {t k e : TypeId} {q : IntKind} {b : Nat} {m : List (Int × Value)} (h : IMap w b m) (ht : P.underlying t = some (.map k e)) (hk : P.underlying k = some (.int q)) (x : Int) (v : Value) :
    ∃ w', (Instr.mapUpdate t (.map (some b)) (.int .i64 x) v).run P w = .ok () w' ∧ IMap w' b (mput m x v) ∧ w'.heap.size = w.heap.size ∧ Turn [b] w w' := by
  obtain ⟨es, c, hh, hm, hb1, hb2⟩ := h.ex
  have hf := findKey_run (P := P) (w := w) hk x hm
  have hg : (Sem.getObj b Sem.pure : Sem Obj).run P w = .ok (.map es c) w := by simp [Sem.run, hh]
  have hlt := h.lt
  have turn : ∀ o : Obj, Turn [b] w { w with heap := w.heap.setIfInBounds b o } := fun o =>
    ⟨rfl, rfl, rfl, by simp, fun j hj hn => by
      simp only [List.mem_singleton] at hn
      simp only [Array.getElem?_setIfInBounds_ne (fun e : b = j => hn e.symm)]⟩
  have hlen : es.size = m.length := by have := congrArg List.length hm; simpa using this
  unfold Instr.mapUpdate
  simp only [Sem.run_bind, run_underlying ht, Result.andThen, getObj, hg, checkKey_int hk, hf]
  cases hi : (m.findIdx? (fun p => p.1 == x)) with
  | none =>
    have hno : mget m x = none := by rw [mget_idx, hi]; rfl
    refine ⟨{ w with heap := w.heap.setIfInBounds b (.map (es.push { key := .int .i64 x, val := v, born := c }) (c + 1)) }, by simp [setObj, Sem.run, hh], ⟨⟨es.push { key := .int .i64 x, val := v, born := c }, c + 1, by simp [hlt], ?_, ?_, ?_⟩, mput_nodup h.nodup⟩, by simp, turn _⟩
    · simp [mput, hno, hm]
    · simp only [Array.toList_push, List.map_append, List.map_cons, List.map_nil]
      rw [List.nodup_append]
      refine ⟨hb1, by simp, fun a ha a' ha' => ?_⟩
      simp only [List.mem_map] at ha
      obtain ⟨e, he, rfl⟩ := ha
      have := hb2 e he
      simp at ha'
      omega
    · intro e he
      simp only [Array.toList_push, List.mem_append, List.mem_singleton] at he
      rcases he with he | rfl
      · have := hb2 e he; omega
      · simp
  | some j =>
    obtain ⟨p, hp, hpk, hjl⟩ := mget_found hi
    have hyes : (mget m x).isSome = true := by rw [mget_idx, hi, Option.bind_some, hp]; rfl
    have hje : j < es.size := by omega
    have hkey : es[j].key = .int .i64 x := by
      have h1 := congrArg (fun l => l[j]?) hm
      simp only [List.getElem?_map, hp, Option.map_some, Array.getElem?_toList, Array.getElem?_eq_getElem hje, Option.some.injEq, Prod.mk.injEq] at h1
      rw [h1.1, hpk]
    simp only [Option.bind_some, hp, Option.map_some]
    have hstay : (Instr.keyThatStays (((es[j]?).map (·.key)).getD (.int .i64 x)) (.int .i64 x)).run P w = .ok (.int .i64 x) w := by
      rw [Array.getElem?_eq_getElem hje]
      simp only [Option.map_some, Option.getD_some, hkey, Instr.keyThatStays]
      have : Instr.sameBits 10000 (.int .i64 x) (.int .i64 x) = true := by simp [Instr.sameBits]
      simp [this, Sem.run_pure]
    refine ⟨{ w with heap := w.heap.setIfInBounds b (.map (es.modify j fun e => { e with key := .int .i64 x, val := v }) c) }, ?_, ⟨⟨es.modify j fun e => { e with key := .int .i64 x, val := v }, c, by simp [hlt], ?_, ?_, ?_⟩, mput_nodup h.nodup⟩, by simp, turn _⟩
    · rw [Sem.run_bind, hstay]
      simp [Result.andThen, setObj, Sem.run, hh]
    · simp only [mput, hyes, if_true]
      apply List.ext_getElem?
      intro i
      simp only [List.getElem?_map, Array.getElem?_toList, Array.getElem?_modify, List.map_map]
      have h1 := congrArg (fun l => l[i]?) hm
      simp only [List.getElem?_map, Array.getElem?_toList] at h1
      by_cases e : j = i
      · subst e
        simp only [if_true, hp, Option.map_some, Array.getElem?_eq_getElem hje, Function.comp, hpk]
      · rw [if_neg e, h1]
        cases hmi : m[i]? with
        | none => rfl
        | some p2 =>
          simp only [Option.map_some, Function.comp]
          have hne : p2.1 ≠ x := fun e2 => by
            have hnd := h.nodup
            have a1 : (m.map (·.1))[i]? = some x := by simp [hmi, e2]
            have a2 : (m.map (·.1))[j]? = some x := by simp [hp, hpk]
            have hil := (List.getElem?_eq_some_iff.1 a1).1
            exact e ((List.getElem?_inj (by simpa using hjl) hnd).1 (a2.trans a1.symm))
          rw [if_neg hne]
    · have : (es.modify j fun e => { e with key := .int .i64 x, val := v }).toList.map (·.born) = es.toList.map (·.born) := by
        apply List.ext_getElem?
        intro i
        simp only [List.getElem?_map, Array.getElem?_toList, Array.getElem?_modify]
        by_cases e : j = i
        · subst e; simp only [if_true, Array.getElem?_eq_getElem hje, Option.map_some]
        · rw [if_neg e]
      rw [this]; exact hb1
    · intro e he
      obtain ⟨i, hi2⟩ := List.mem_iff_getElem?.1 he
      simp only [Array.getElem?_toList, Array.getElem?_modify] at hi2
      by_cases ej : j = i
      · subst ej
        rw [if_pos rfl, Array.getElem?_eq_getElem hje] at hi2
        simp at hi2
        rw [← hi2]
        exact hb2 es[j] (by simp)
      · rw [if_neg ej] at hi2
        exact hb2 e (List.mem_iff_getElem?.2 ⟨i, by simpa using hi2⟩)

theorem IMap.len {t k e : TypeId} {b : Nat} {m : List (Int × Value)} (h : IMap w b m) (ht : P.underlying t = some (.map k e)) (ty : TypeId) : (Builtin.len_ #[t] ty #[.map (some b)]).run P w = .ok (.int .i64 m.length) w := by
  obtain ⟨es, c, hh, hm, _⟩ := h.ex
  have hlen : es.size = m.length := by have := congrArg List.length hm; simpa using this
  have hg : (Sem.getObj b Sem.pure : Sem Obj).run P w = .ok (.map es c) w := by simp [Sem.run, hh]
  simp [Builtin.len_, run_underlying ht, Sem.run_bind, Result.andThen, getObj, hg, goInt, hlen, Sem.run_pure]

/-! ### at the operation, for the walk -/
variable {ops : Array Oper} {rest : List Oper} {o : Oper} {a : Act} {Q : Exit → Act → World → Prop}
theorem wpList_look (hg : o.guard = none) (m x : Operand) (t : TypeId) (hop : o.op = Op.lookup t m x true) {k e : TypeId} {q : IntKind} (ht : P.underlying t = some (.map k e)) (hk : P.underlying k = some (.int q)) {z : Value} (hz : (zeroValue e).run P w = .ok z w)
    {b : Nat} {mm : List (Int × Value)} (hm : a.eval m = .map (some b)) (h : IMap w b mm) {y : Int} (hx : a.eval x = .int .i64 y) (hK : wpList P ops Q rest (a.put o.dst (.tuple #[(mget mm y).getD z, .bool (mget mm y).isSome])) w) : wpList P ops Q (o :: rest) a w := by
  refine wpList_plain hg fun K' hK' => ?_
  unfold Oper.wp
  simp [execOp, hop, hm, hx, h.lookup ht hk hz y, Result.andThen]
  exact hK' _ _ hK
theorem wpList_put (hg : o.guard = none) (m x u : Operand) (t : TypeId) (hop : o.op = Op.mapUpdate t m x u ∨ o.op = Op.insert t m x u) {k e : TypeId} {q : IntKind} (ht : P.underlying t = some (.map k e)) (hk : P.underlying k = some (.int q))
    {b : Nat} {mm : List (Int × Value)} (hm : a.eval m = .map (some b)) (h : IMap w b mm) {y : Int} (hx : a.eval x = .int .i64 y)
    (hK : ∀ w', IMap w' b (mput mm y (a.eval u)) → w'.heap.size = w.heap.size → Turn [b] w w' → wpList P ops Q rest (a.put o.dst undef) w') : wpList P ops Q (o :: rest) a w := by
  refine wpList_plain hg fun K' hK' => ?_
  obtain ⟨w', hrun, r1, r2, r3⟩ := h.update ht hk y (a.eval u)
  unfold Oper.wp
  rcases hop with hop | hop <;> simp [execOp, hop, hm, hx, hrun, Result.andThen] <;> exact hK' _ _ (hK w' r1 r2 r3)
end
end Go.Proofs.Ytefpmjnimnmniaa
