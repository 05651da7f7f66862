/- What the claim needs, part 26. -/
import Derived.Test.YtefpmjnimnmniaaH23
import Derived.Test.YtefpmjnimnmniaaH24
import Derived.Test.YtefpmjnimnmniaaH25
namespace Go.Proofs.Ytefpmjnimnmniaa
set_option linter.unusedSimpArgs false
set_option linter.unusedVariables false
open Go.RowKit
theorem Off.grow {S S' : Foot} {A B C : World} (h : Off S A B) (k : Off S' B C) (hs : ∀ q, S' q → S q ∨ A.heap.size ≤ q) : Off S A C :=
  ⟨k.os.trans h.os, k.tape.trans h.tape, k.output.trans h.output, Nat.le_trans h.size k.size, fun i hi hn => (k.block i (Nat.lt_of_lt_of_le hi h.size) fun hm => (hs i hm).elim hn (fun h => by omega)).trans (h.block i hi hn)⟩
theorem OFunc.zero {W : World} : OFunc W Foot.none (.agg #[.slice none 0 0, .int .i64 0, .int .i64 0, .slice none 0 0]) zeroF :=
  ⟨⟨_, _, Foot.none, Foot.none, rfl, OInts.nil none, OSl.nil none, fun _ h => h.elim, fun _ h => h.elim, fun _ h => h.elim⟩, fun _ h => h.elim, ⟨by decide, by decide⟩, ⟨by decide, by decide⟩⟩
theorem OInts.narrow {W : World} {S : Foot} {xs : List Int} {g cap n : Nat} (h : OInts W S (.slice (some ⟨g, 0, none⟩) n cap) xs) (hn : 0 < xs.length) : OInts W (Foot.one g) (.slice (some ⟨g, 0, none⟩) n cap) xs ∧ S g := by
  obtain ⟨⟨h1, h2, h3, h4⟩, h5⟩ := h
  rcases h4 with ⟨h4, _⟩ | ⟨g', cap', cur, hv, hg, r⟩
  · omega
  · cases hv
    exact ⟨⟨⟨h1, h2, fun k hk => by cases hk; exact h3 g hg, .inr ⟨g, cap, cur, rfl, rfl, r⟩⟩, h5⟩, hg⟩
theorem gives_iapp {w : World} {o : Oper} {a : Act} (s x : Operand)
    (ho : o.op = .call { callee := .builtin .append, args := #[s, x], argTypes := #[22, 22] }) {v : Value} {B : Nat} {y : Int} (hs : a.eval s = v) (hx : a.eval x = .slice (some ⟨B, 0, none⟩) 1 1) {S : Foot} {xs : List Int} {n : Nat} (hn : xs.length = n)
    (H : OInts w S v xs) (hB : Box w B #[.int .i64 y]) (hy : In64 y) (hlen : n + 1 ≤ 100000) {XF : Nat → Foot} {i : Nat} (hX : ∀ k, S k → XF i k) :
    ∃ u w'', (execOp a.eval o).run Try.prog w = .ok (.value u) w'' ∧ (∃ g cap, u = .slice (some ⟨g, 0, none⟩) (n + 1) cap ∧ OInts w'' (Foot.one g) u (xs ++ [y]) ∧ (S g ∨ w.heap.size ≤ g)) ∧ Four.Step XF (fun _ => True) i w w'' := by
  obtain ⟨v', w', G', hrun, r1, r2, r3, -⟩ := exec_oapp (P := Try.prog) s x 22 3 ho elInt hs hx H.1 (row_box (n := 1) (size := 1) (ds := [.int .i64 y]) hB rfl (by omega)) (by intro u hu; simp at hu; subst hu; rfl) (by omega) (by omega)
  have hO : OInts w' G' v' (xs ++ [y]) := by
    refine ⟨?_, fun z hz => ?_⟩
    · rw [List.length_append, List.map_append]; exact r1
    · rcases List.mem_append.1 hz with h | h
      · exact H.2 z h
      · simp at h; subst h; exact hy
  obtain ⟨g, cap, rfl, hg, -⟩ := hO.1.addr (by simp)
  have hl : (xs ++ [y]).length = n + 1 := by simp [hn]
  rw [hl] at hO hrun
  obtain ⟨k1, k2⟩ := hO.narrow (by omega)
  exact ⟨_, w', hrun, ⟨g, cap, rfl, k1, r2 g k2⟩, r3.mono fun k _ hk => hX k hk, fun h => h⟩
theorem gives_iapp2 {w : World} {o : Oper} {a : Act} (s x : Operand)
    (ho : o.op = .call { callee := .builtin .append, args := #[s, x], argTypes := #[22, 22] }) {v : Value} {B : Nat} {y : Int} (hs : a.eval s = v) (hx : a.eval x = .slice (some ⟨B, 0, none⟩) 1 1) {S : Foot} {xs : List Int} {n : Nat} (hn : xs.length = n)
    (H : OInts w S v xs) (hB : Box w B #[.int .i64 y]) (hy : In64 y) (hlen : n + 1 ≤ 100000) {XF : Nat → Foot} {i : Nat} (hX : ∀ k, S k → XF i k) {Z : Value → World → Prop}
    (hZ : ∀ g cap w'', OInts w'' (Foot.one g) (.slice (some ⟨g, 0, none⟩) (n + 1) cap) (xs ++ [y]) → (S g ∨ w.heap.size ≤ g) → Z (.slice (some ⟨g, 0, none⟩) (n + 1) cap) w'') :
    ∃ u w'', (execOp a.eval o).run Try.prog w = .ok (.value u) w'' ∧ Z u w'' ∧ Four.Step XF (fun _ => True) i w w'' := by
  obtain ⟨u, w'', h1, ⟨g, c, e, h2, h3⟩, h4⟩ := gives_iapp (XF := XF) (i := i) s x ho hs hx hn H hB hy hlen hX
  subst e
  exact ⟨_, w'', h1, hZ g c w'' h2 h3, h4⟩
theorem box_new2 (W : World) (o : Obj) (A : Array Value) (T : TypeId) : Box ((W.alloc o).alloc (.cells A T)) (W.heap.size + 1) A := by simpa using Box.new (W.alloc o) A T
theorem jump_block {w : World} {t : Int} (ht : In64 t) (o : Obj) : OBlock ((w.alloc (.cells #[.int .i64 t] 3)).alloc o) (Foot.one w.heap.size) [.slice none 0 0, .slice none 0 0, .int .i64 1, .int .i64 (-1), .slice (some ⟨w.heap.size, 0, none⟩) 1 1, .int .i64 0] (jumpB t) := by
  have hl : ∀ k, Foot.one w.heap.size k → k < ((w.alloc (.cells #[.int .i64 t] 3)).alloc o).heap.size := fun k hk => by cases hk; simp; omega
  have hrow : ORow ((w.alloc (.cells #[.int .i64 t] 3)).alloc o) (Foot.one w.heap.size) 3 1 (.slice (some ⟨w.heap.size, 0, none⟩) 1 1) 1 [.int .i64 t] := by
    refine ⟨rfl, by omega, hl, .inr ⟨w.heap.size, 1, #[.int .i64 t], rfl, rfl, ?_, Nat.le_refl _, by unfold maxLen; omega, rfl, rfl⟩⟩
    show ((w.heap.push (.cells #[.int .i64 t] 3)).push o)[w.heap.size]? = _
    rw [Array.getElem?_push, if_neg (by rw [Array.size_push]; omega), Array.getElem?_push, if_pos rfl]
  refine ⟨⟨_, _, _, Foot.none, Foot.none, Foot.one w.heap.size, rfl, OSl.nil none, OSl.nil none, ⟨⟨_, rfl, hrow, fun x hx => ?_⟩, (show In64 1 from ⟨by decide, by decide⟩), (show In64 (-1) from ⟨by decide, by decide⟩), (show In64 0 from ⟨by decide, by decide⟩)⟩, fun _ h => h.elim, fun _ h => h.elim, fun _ h => h.elim, fun _ h => h.elim, fun _ h => h.elim, fun _ h => h⟩, hl⟩
  have : x = t := by simpa [jumpB] using hx
  rw [this]; exact ht
theorem Off.cell {S : Foot} {W W' : World} (h : Off S W W') {b o : Nat} (hl : b < W.heap.size) (hn : ¬ S b) : W'.cell? ⟨b, o, none⟩ = W.cell? ⟨b, o, none⟩ := World.cell?_of_block (w := W) (a := ⟨b, o, none⟩) (h.block b hl hn)
theorem set_same {α : Type} {l : List α} {i : Nat} {x : α} (h : l[i]? = some x) : l.set i x = l := by
  apply List.ext_getElem?
  intro j
  rw [List.getElem?_set]
  have := (List.getElem?_eq_some_iff.1 h).1
  by_cases e : i = j
  · subst e; rw [if_pos rfl, if_pos this, h]
  · rw [if_neg e]
theorem splitPhi_out {b n : Int} {still : Bool} {p : PhiD} (h : b ∉ p.src) : splitPhi b n still p = p := if_neg h
theorem splitPhi_still {b n : Int} {p : PhiD} (h : b ∈ p.src) : splitPhi b n true p = { p with src := p.src ++ [n], vals := p.vals ++ [p.vals.getD (p.src.idxOf b) 0] } := by unfold splitPhi; rw [if_pos h, if_pos rfl]
theorem splitPhi_not {b n : Int} {p : PhiD} (h : b ∈ p.src) : splitPhi b n false p = { p with src := p.src.set (p.src.idxOf b) n, vals := p.vals } := by unfold splitPhi; rw [if_pos h]; rfl
theorem idxI_mem {xs : List Int} {x : Int} (h : x ∈ xs) : idxI xs x = (xs.idxOf x : Nat) := if_pos h
def SplitR (f : FuncD) (b k : Int) (w : World) (e : Ending) (w' : World) : Prop := ∃ v S, e = .returned (.tuple #[v, .int .i64 (splitF f b k).2]) ∧ OFunc w' S v (splitF f b k).1 ∧ Fresh w.heap.size S ∧ Below w.heap.size w w'
theorem block_sizes {f : FuncD} (hc : checkF f = 0) : (∀ x ∈ f.blocks, x.phis.length ≤ 100000 ∧ x.code.length ≤ 100000) ∧ f.blocks.length ≤ 100000 := by
  have hf := (check_fine hc).1
  have hs := (even_of hf).size
  have hn := (formB_nb hf).2
  refine ⟨fun x hx => ?_, by omega⟩
  have h1 : sizeB x ≤ sizeF f := by
    unfold sizeF
    have : ∀ (l : List BlockD), x ∈ l → sizeB x ≤ (l.map sizeB).sum ∧ 0 ≤ (l.map sizeB).sum := by
      intro l
      induction l with
      | nil => intro h; cases h
      | cons y l ih =>
        intro h
        have hy : 0 ≤ sizeB y := by unfold sizeB; omega
        have hnn : ∀ (l : List BlockD), 0 ≤ (l.map sizeB).sum := by
          intro l
          induction l with
          | nil => simp
          | cons z l ih => have : 0 ≤ sizeB z := (by unfold sizeB; omega); simp only [List.map_cons, List.sum_cons]; omega
        have := hnn l
        simp only [List.map_cons, List.sum_cons]
        rcases List.mem_cons.1 h with rfl | h
        · omega
        · have := (ih h).1; omega
    exact (this _ hx).1
  unfold sizeB at h1
  omega
end Go.Proofs.Ytefpmjnimnmniaa
