/- A slice of the call's own that grows, beside boxes that stay. -/
import Derived.Test.YtefpmjnimnmniaaKit
namespace Go.Proofs.Ytefpmjnimnmniaa
set_option linter.unusedSimpArgs false
set_option linter.unusedVariables false
open Go.RowKit

/-- v is a slice that the call itself made from block base on, in none of the blocks bs; it holds the cells cs. -/
structure Own (W : World) (base : Nat) (bs : List Nat) (e : TypeId) (size : Nat) (v : Value) (n : Nat) (cs : List Value) : Prop where
  row : W.ownsRow base e size v n cs
  free : ∀ g, v.ownBlock = some g → g ∉ bs

theorem Own.nil {W : World} {base : Nat} {bs : List Nat} {e : TypeId} {size : Nat} : Own W base bs e size (.slice none 0 0) 0 [] :=
  ⟨⟨by simp, .inl ⟨rfl, rfl⟩⟩, fun g h => by cases h⟩
theorem Own.lt {W : World} {base : Nat} {bs : List Nat} {e : TypeId} {size : Nat} {v : Value} {n : Nat} {cs : List Value} (h : Own W base bs e size v n cs) {g : Nat} (hg : v.ownBlock = some g) : g < W.heap.size ∧ base ≤ g := by
  rcases h.row.2 with ⟨rfl, _⟩ | ⟨g', cap, cur, rfl, hb, hh, _⟩
  · cases hg
  · cases hg; exact ⟨(Array.getElem?_eq_some_iff.1 hh).1, hb⟩
theorem Own.keep {W W' : World} {base : Nat} {bs : List Nat} {e : TypeId} {size : Nat} {v : Value} {n : Nat} {cs : List Value} (h : Own W base bs e size v n cs) (hk : ∀ g, v.ownBlock = some g → W'.heap[g]? = W.heap[g]?) : Own W' base bs e size v n cs := by
  refine ⟨⟨h.row.1, ?_⟩, h.free⟩
  rcases h.row.2 with h2 | ⟨g, cap, cur, hv, hb, hh, r⟩
  · exact .inl h2
  · exact .inr ⟨g, cap, cur, hv, hb, by rw [hk g (by rw [hv]; rfl)]; exact hh, r⟩
theorem Own.later {W W' : World} {base : Nat} {bs : List Nat} {e : TypeId} {size : Nat} {v : Value} {n : Nat} {cs : List Value} (h : Own W base bs e size v n cs) (hb : Below W.heap.size W W') : Own W' base bs e size v n cs :=
  h.keep fun g hg => hb.block g (h.lt hg).1
theorem Own.alloc {W : World} {base : Nat} {bs : List Nat} {e : TypeId} {size : Nat} {v : Value} {n : Nat} {cs : List Value} (h : Own W base bs e size v n cs) (o : Obj) : Own (W.alloc o) base bs e size v n cs :=
  h.later ((Below.refl _ _).alloc (Nat.le_refl _) o)
theorem Own.other {W : World} {base : Nat} {bs : List Nat} {e : TypeId} {size : Nat} {v : Value} {n : Nat} {cs : List Value} (h : Own W base bs e size v n cs) {p : Addr} (u : Value) (hp : p.block ∈ bs) : Own (W.setCell p u) base bs e size v n cs :=
  h.keep fun g hg => Below.heap_setCell W p u g (fun e => h.free g hg (e ▸ hp))
/-- A block that was not there is free of the slice. -/
theorem Own.more {W : World} {base : Nat} {bs : List Nat} {e : TypeId} {size : Nat} {v : Value} {n : Nat} {cs : List Value} (h : Own W base bs e size v n cs) {b : Nat} (hb : W.heap.size ≤ b) : Own W base (b :: bs) e size v n cs :=
  ⟨h.row, fun g hg hm => by
    rcases List.mem_cons.1 hm with rfl | hm
    · have := (h.lt hg).1; omega
    · exact h.free g hg hm⟩
theorem Own.less {W : World} {base : Nat} {bs bs' : List Nat} {e : TypeId} {size : Nat} {v : Value} {n : Nat} {cs : List Value} (h : Own W base bs e size v n cs) (hb : ∀ b ∈ bs', b ∈ bs) : Own W base bs' e size v n cs :=
  ⟨h.row, fun g hg hm => h.free g hg (hb g hm)⟩
theorem Own.reads {W : World} {base : Nat} {bs : List Nat} {e : TypeId} {size : Nat} {v : Value} {n : Nat} {cs : List Value} (h : Own W base bs e size v n cs) (hn : n ≤ 17592186044416) : Row W v n size cs := Row.of_own h.row hn

theorem Own.form {W : World} {base : Nat} {bs : List Nat} {e : TypeId} {size : Nat} {v : Value} {n : Nat} {cs : List Value} (h : Own W base bs e size v n cs) : ∃ a c, v = .slice a n c := by
  rcases h.row.2 with ⟨rfl, rfl⟩ | ⟨g, cap, cur, rfl, _⟩
  · exact ⟨_, _, rfl⟩
  · exact ⟨_, _, rfl⟩
theorem Row.of_box {W : World} {b n size : Nat} {A : Array Value} (h : Box W b A) (hs : A.size = n * size) (hn : n ≤ 17592186044416) : Row W (.slice (some ⟨b, 0, none⟩) n n) n size A.toList := by
  refine ⟨by simpa using hs, hn, some ⟨b, 0, none⟩, n, rfl, Nat.le_refl _, by unfold maxLen; omega, by simp, fun ad ha j u hj => ?_⟩
  cases ha
  rw [add_mk, Nat.zero_add, h.cell]
  simpa using hj

theorem wpList_own {P : Program} {w : World} {ops : Array Oper} {rest : List Oper} {o : Oper} {a : Act} {Q : Exit → Act → World → Prop} (hgd : o.guard = none) (s x : Operand) (t e : TypeId)
    (ho : o.op = .call { callee := .builtin .append, args := #[s, x], argTypes := #[t, t] }) {z : Value} {size bytes : Nat} (he : Elem P t e z size bytes) {base : Nat} {bs : List Nat}
    {v xv : Value} {n m : Nat} {cs news : List Value} (hs : a.eval s = v) (hx : a.eval x = xv) (HO : Own w base bs e size v n cs) (hr : Row w xv m size news)
    (h1 : ∀ u ∈ news, u.oneCell' = true) (h63 : n + m ≤ maxLen) (hbytes : (n + m) * bytes ≤ 140737488355328) (hbase : base ≤ w.heap.size) (hbs : ∀ b ∈ bs, b < w.heap.size)
    (h : ∀ v' w', Own w' base bs e size v' (n + m) (cs ++ news) → (∀ b A, b ∈ bs → Box w b A → Box w' b A) → Below base w w' → wpList P ops Q rest (a.put o.dst v') w') : wpList P ops Q (o :: rest) a w := by
  refine wpList_append_row' hgd s x t e ho he base hs hx HO.row hr h1 h63 hbytes hbase fun v' w' r1 r2 r3 => h v' w' ⟨r1, fun g hg hm => ?_⟩ (fun b A hb hB => ?_) ?_
  · rcases r3 with e3 | e3
    · rw [e3] at hg; exact HO.free g hg hm
    · rw [e3] at hg; cases hg; exact absurd (hbs _ hm) (by omega)
  · have hbl : w'.heap[b]? = w.heap[b]? := r2.block b hB.lt (fun e => HO.free b e.symm hb)
    exact ⟨Nat.lt_of_lt_of_le hB.lt r2.size, fun o => (World.cell?_of_block (w := w) (a := ⟨b, o, none⟩) hbl).trans (hB.cell o), fun o => (World.frozen?_of_block (w := w) (a := ⟨b, o, none⟩) hbl).trans (hB.free o)⟩
  · exact (Below.refl _ _).grown r2 hbase fun k hk => (HO.lt hk).2
end Go.Proofs.Ytefpmjnimnmniaa
