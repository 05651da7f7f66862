/- What the claim needs, part 45. -/
import Derived.Test.YtjmikinbdclfbaaCC39
import Derived.Test.YtjmikinbdclfbaaCC44
import Derived.Test.YtjmikinbdclfbaaCC30
import Derived.Test.YtjmikinbdclfbaaCC37
namespace Go.Proofs.Ytjmikinbdclfbaa
set_option linter.unusedSimpArgs false
set_option linter.unusedVariables false
open Go.RowKit
def Ran (f : FuncD) (i : InputD) (lo : Int) (x : Value) (W : World) : Prop := ∃ t, RunP f i lo t ∧ TraceV W x t
theorem Ran.later {f : FuncD} {i : InputD} {lo : Int} {x : Value} {W W' : World} (h : Ran f i lo x W) (hb : Below W.heap.size W W') : Ran f i lo x W' := by
  obtain ⟨t, h1, h2⟩ := h
  exact ⟨t, h1, h2.below hb⟩
theorem same_of_runs {f : FuncD} {i j : InputD} {lo : Int} {W : World} {v u : Value} (hs : startS f i = startS f j) (h1 : Ran f i lo v W) (h2 : Ran f j lo u W) : Calls Try.prog 14 #[v, u] W (TellsR true W) := by
  obtain ⟨t, p, a⟩ := h1
  obtain ⟨t2, q, b⟩ := h2
  obtain rfl := run_same hs p q
  have h := refSame a b
  rwa [sameT_self] at h
def ORefs (w0 W : World) (G : Foot) (v : Value) (xs : List (List Int)) : Prop := ∃ cs, ORow W G 22 1 v xs.length cs ∧ ∀ j, j < xs.length → Ints w0 (cs.getD j undef) (xs.getD j [])
theorem ORefs.off {w0 W W' : World} {G D : Foot} {v : Value} {xs : List (List Int)} (h : ORefs w0 W G v xs) (ho : Off D W W') (hn : G.off D) : ORefs w0 W' G v xs := by
  obtain ⟨cs, h1, h2⟩ := h
  exact ⟨cs, h1.off ho hn, h2⟩
theorem ORefs.keep {w0 W W' : World} {G : Foot} {v : Value} {xs : List (List Int)} (h : ORefs w0 W G v xs) (hk : ∀ k, G k → W'.heap[k]? = W.heap[k]?) : ORefs w0 W' G v xs := by
  obtain ⟨cs, h1, h2⟩ := h
  exact ⟨cs, h1.keep hk, h2⟩
theorem ORefs.lt {w0 W : World} {G : Foot} {v : Value} {xs : List (List Int)} (h : ORefs w0 W G v xs) : ∀ k, G k → k < W.heap.size := by
  obtain ⟨cs, h1, h2⟩ := h
  exact h1.lt
theorem ORefs.lists {w0 W : World} {G : Foot} {v : Value} {xs : List (List Int)} (h : ORefs w0 W G v xs) (hb : Below w0.heap.size w0 W) : Lists W v xs := by
  obtain ⟨cs, h1, h2⟩ := h
  exact ⟨cs, by have := h1.len; omega, h1.row, fun j hj => (h2 j hj).below hb⟩
theorem ORefs.form {w0 W : World} {G : Foot} {v : Value} {xs : List (List Int)} (h : ORefs w0 W G v xs) : ∃ a c, v = .slice a xs.length c := by
  obtain ⟨cs, h1, h2⟩ := h
  obtain ⟨a, c, hv, _⟩ := h1.row.is
  exact ⟨a, c, hv⟩
theorem ORefs.nil {w0 W : World} (a : Option Addr) : ORefs w0 W Foot.none (.slice a 0 0) [] := ⟨[], ORow.nil a, fun j hj => by simp at hj⟩
theorem refs_cells {w : World} {cs : List Value} {xs : List (List Int)} (hl : cs.length = xs.length) (h : ∀ j, j < xs.length → Ints w (cs.getD j undef) (xs.getD j [])) : ∀ u ∈ cs, u.oneCell' = true := fun u hu => by
  obtain ⟨j, hj, e⟩ := List.getElem_of_mem hu
  obtain ⟨a, c, e2⟩ := (h j (by omega)).form
  rw [List.getD_eq_getElem?_getD, List.getElem?_eq_getElem hj] at e2
  rw [← e, show cs[j] = _ from e2]
  rfl
theorem refs_fin {w0 W' : World} {G' : Foot} {v' : Value} {cs news : List Value} {xs ys : List (List Int)} (hl : cs.length = xs.length) (hx : ∀ j, j < xs.length → Ints w0 (cs.getD j undef) (xs.getD j [])) (hy : ∀ j, j < ys.length → Ints w0 (news.getD j undef) (ys.getD j []))
    (hr : ORow W' G' 22 1 v' (xs.length + ys.length) (cs ++ news)) : ORefs w0 W' G' v' (xs ++ ys) := by
  refine ⟨cs ++ news, by rw [List.length_append]; exact hr, fun j hj => ?_⟩
  rw [List.length_append] at hj
  by_cases e : j < xs.length
  · have h := hx j e
    rw [List.getD_eq_getElem?_getD, List.getD_eq_getElem?_getD, List.getElem?_append_left (by omega), List.getElem?_append_left e]
    rwa [List.getD_eq_getElem?_getD, List.getD_eq_getElem?_getD] at h
  · have h := hy (j - xs.length) (by omega)
    rw [List.getD_eq_getElem?_getD, List.getD_eq_getElem?_getD, List.getElem?_append_right (by omega), List.getElem?_append_right (by omega), hl]
    rwa [List.getD_eq_getElem?_getD, List.getD_eq_getElem?_getD] at h
theorem refs_app {w0 w : World} {o : Oper} {a : Act} (s x : Operand) (ho : o.op = .call { callee := .builtin .append, args := #[s, x], argTypes := #[32, 32] }) {v xv : Value} {S : Foot} {xs ys : List (List Int)} {news : List Value} (hs : a.eval s = v) (hx : a.eval x = xv)
    (H : ORefs w0 w S v xs) (hr : Row w xv ys.length 1 news) (hl : news.length = ys.length) (hy : ∀ j, j < ys.length → Ints w0 (news.getD j undef) (ys.getD j [])) (hlen : xs.length + ys.length ≤ 4398046511104) :
    ∃ b c w' G', (execOp a.eval o).run Try.prog w = .ok (.value (.slice b (xs.length + ys.length) c)) w' ∧ ORefs w0 w' G' (.slice b (xs.length + ys.length) c) (xs ++ ys) ∧ (∀ k, G' k → S k ∨ w.heap.size ≤ k) ∧ Off S w w' := by
  obtain ⟨cs, h1, h2⟩ := H
  obtain ⟨v', w', G', hrun, r1, r2, r3, -⟩ := exec_oapp (P := Try.prog) s x 32 22 ho elInts hs hx h1 hr (refs_cells hl hy) (by omega) (by omega)
  have hO := refs_fin (by have := h1.len; omega) h2 hy r1
  obtain ⟨b, c, rfl⟩ := hO.form
  rw [List.length_append] at hO hrun
  exact ⟨b, c, w', G', hrun, hO, r2, r3⟩
theorem ints_app {w : World} {o : Oper} {a : Act} (s x : Operand) (ho : o.op = .call { callee := .builtin .append, args := #[s, x], argTypes := #[22, 22] }) {v xv : Value} {S : Foot} {xs ys : List Int} (hs : a.eval s = v) (hx : a.eval x = xv)
    (H : OInts w S v xs) (hr : Ints w xv ys) (hlen : xs.length + ys.length ≤ 17592186044416) :
    ∃ b c w' G', (execOp a.eval o).run Try.prog w = .ok (.value (.slice b (xs.length + ys.length) c)) w' ∧ OInts w' G' (.slice b (xs.length + ys.length) c) (xs ++ ys) ∧ (∀ k, G' k → S k ∨ w.heap.size ≤ k) ∧ Off S w w' := by
  obtain ⟨v', w', G', hrun, r1, r2, r3, -⟩ := exec_oapp (P := Try.prog) s x 22 3 ho elInt hs hx H.1 hr.1 (oneCell_int _) (by omega) (by omega)
  have hO : OInts w' G' v' (xs ++ ys) := ⟨by rw [List.length_append, List.map_append]; exact r1, fun z hz => by
    rcases List.mem_append.1 hz with h | h
    · exact H.2 z h
    · exact hr.2 z h⟩
  obtain ⟨b, c, rfl⟩ := hO.ints.form
  rw [List.length_append] at hO hrun
  exact ⟨b, c, w', G', hrun, hO, r2, r3⟩
theorem gives7 {w w' : World} {Z : Value → Foot → World → Prop} {E S G' : Foot} {u : Value} (hz : Z u G' w') (hE : ∀ k, S k → E k) (h2 : ∀ k, G' k → S k ∨ w.heap.size ≤ k) (h3 : Off S w w') (hlt : ∀ k, G' k → k < w'.heap.size) : Seven.Gives Z E w u w' :=
  ⟨G', hz, h3.mono fun k _ hk => hE k hk, fun b hb => ⟨(h2 b hb).imp (hE b) id, hlt b hb⟩⟩
theorem gives7_iapp {w : World} {o : Oper} {a : Act} (s x : Operand) (ho : o.op = .call { callee := .builtin .append, args := #[s, x], argTypes := #[22, 22] }) {v xv : Value} {S E : Foot} {xs ys : List Int} {Z : Value → Foot → World → Prop} (hs : a.eval s = v) (hx : a.eval x = xv)
    (H : OInts w S v xs) (hr : Ints w xv ys) (hlen : xs.length + ys.length ≤ 17592186044416) (hE : ∀ k, S k → E k) (hZ : ∀ b c φ w', OInts w' φ (.slice b (xs.length + ys.length) c) (xs ++ ys) → Z (.slice b (xs.length + ys.length) c) φ w') :
    ∃ u w'', (execOp a.eval o).run Try.prog w = .ok (.value u) w'' ∧ Seven.Gives Z E w u w'' := by
  obtain ⟨b, c, w', G', hrun, hO, r2, r3⟩ := ints_app s x ho hs hx H hr hlen
  exact ⟨_, w', hrun, gives7 (hZ b c G' w' hO) hE r2 r3 hO.lt⟩
theorem gives7_rapp {w0 w : World} {o : Oper} {a : Act} (s x : Operand) (ho : o.op = .call { callee := .builtin .append, args := #[s, x], argTypes := #[32, 32] }) {v xv : Value} {S E : Foot} {xs ys : List (List Int)} {news : List Value} {Z : Value → Foot → World → Prop} (hs : a.eval s = v) (hx : a.eval x = xv)
    (H : ORefs w0 w S v xs) (hr : Row w xv ys.length 1 news) (hl : news.length = ys.length) (hy : ∀ j, j < ys.length → Ints w0 (news.getD j undef) (ys.getD j [])) (hlen : xs.length + ys.length ≤ 4398046511104) (hE : ∀ k, S k → E k)
    (hZ : ∀ b c φ w', ORefs w0 w' φ (.slice b (xs.length + ys.length) c) (xs ++ ys) → Z (.slice b (xs.length + ys.length) c) φ w') :
    ∃ u w'', (execOp a.eval o).run Try.prog w = .ok (.value u) w'' ∧ Seven.Gives Z E w u w'' := by
  obtain ⟨b, c, w', G', hrun, hO, r2, r3⟩ := refs_app s x ho hs hx H hr hl hy hlen
  exact ⟨_, w', hrun, gives7 (hZ b c G' w' hO) hE r2 r3 hO.lt⟩
theorem wpList_rapp {w0 w : World} {ops : Array Oper} {rest : List Oper} {o : Oper} {a : Act} {Q : Exit → Act → World → Prop} (hgd : o.guard = none) (s x : Operand)
    (ho : o.op = .call { callee := .builtin .append, args := #[s, x], argTypes := #[32, 32] }) {v xv : Value} {S : Foot} {xs ys : List (List Int)} {news : List Value} (hs : a.eval s = v) (hx : a.eval x = xv)
    (H : ORefs w0 w S v xs) (hr : Row w xv ys.length 1 news) (hl : news.length = ys.length) (hy : ∀ j, j < ys.length → Ints w0 (news.getD j undef) (ys.getD j [])) (hlen : xs.length + ys.length ≤ 4398046511104)
    (hK : ∀ b c w' G', ORefs w0 w' G' (.slice b (xs.length + ys.length) c) (xs ++ ys) → (∀ k, G' k → S k ∨ w.heap.size ≤ k) → Off S w w' → wpList Try.prog ops Q rest (a.put o.dst (.slice b (xs.length + ys.length) c)) w') : wpList Try.prog ops Q (o :: rest) a w := by
  obtain ⟨b, c, w', G', hrun, hO, r2, r3⟩ := refs_app s x ho hs hx H hr hl hy hlen
  refine wpList_plain hgd fun K hK' => ?_
  unfold Oper.wp
  rw [hrun]
  exact hK' _ _ (hK b c w' G' hO r2 r3)
theorem wpList_rclone {w0 w : World} {ops : Array Oper} {rest : List Oper} {o : Oper} {a : Act} {Q : Exit → Act → World → Prop} (hgd : o.guard = none) (s x : Operand)
    (ho : o.op = .call { callee := .builtin .append, args := #[s, x], argTypes := #[32, 32] }) {xv : Value} {xs : List (List Int)} {news : List Value} {n : Nat} (hn : xs.length = n) (hs : a.eval s = .slice (some ⟨w.heap.size, 0, none⟩) 0 0) (hx : a.eval x = xv)
    (hr : Row w xv n 1 news) (hl : news.length = n) (hy : ∀ j, j < n → Ints w0 (news.getD j undef) (xs.getD j [])) (hlen : n ≤ 4398046511104)
    (hK : ∀ a' c' w' S', ORefs w0 w' S' (.slice a' n c') xs → Fresh w.heap.size S' → Below w.heap.size w w' → wpList Try.prog ops Q rest (a.put o.dst (.slice a' n c')) w') : wpList Try.prog ops Q (o :: rest) a (w.alloc (.cells #[] 22)) := by
  subst hn
  refine wpList_rapp (w0 := w0) (ys := xs) hgd s x ho hs hx (ORefs.nil _) (hr.below ((Below.refl _ _).alloc (Nat.le_refl _) _)) hl hy (by simp; omega) fun b c w' G' h1 h2 h3 => ?_
  rw [List.length_nil, Nat.zero_add] at h1 ⊢
  refine hK b c w' G' h1 (fun k hk => ?_) (((Below.refl _ _).alloc (Nat.le_refl _) _).trans (h3.below (by simp) fun k _ hk => hk.elim))
  rcases h2 k hk with h | h
  · exact h.elim
  · simp at h; omega
theorem wpList_rsnoc {w0 w : World} {ops : Array Oper} {rest : List Oper} {o : Oper} {a : Act} {Q : Exit → Act → World → Prop} (hgd : o.guard = none) (s x : Operand)
    (ho : o.op = .call { callee := .builtin .append, args := #[s, x], argTypes := #[32, 32] }) {v : Value} {B : Nat} {S : Foot} {xs : List (List Int)} {n : Nat} (hn : xs.length = n) (hs : a.eval s = v) (hx : a.eval x = .slice (some ⟨B, 0, none⟩) 1 1)
    (H : ORefs w0 w S v xs) (hB : Box w B #[.slice none 0 0]) (hlen : n ≤ 5000000)
    (hK : ∀ b c w' G', ORefs w0 w' G' (.slice b (n + 1) c) (xs ++ [[]]) → (∀ k, G' k → S k ∨ w.heap.size ≤ k) → Off S w w' → wpList Try.prog ops Q rest (a.put o.dst (.slice b (n + 1) c)) w') : wpList Try.prog ops Q (o :: rest) a w := by
  subst hn
  exact wpList_rapp (w0 := w0) (ys := [[]]) hgd s x ho hs hx H (row_box (n := 1) (size := 1) (ds := [.slice none 0 0]) hB rfl (by omega)) rfl (fun j hj => by have hj0 : j = 0 := (by simp at hj; omega); subst hj0; exact Ints.nil) (by simp; omega) hK
theorem holds_refs {w0 : World} {base : Nat} {W : World} {S : Foot} {v : Value} {xs : List (List Int)} (h : ORefs w0 W S v xs) (hf : Fresh base S) : Holds [] base W S (fun W => ORefs w0 W S v xs) :=
  ⟨h, fun _ _ h hk => h.keep hk, h.lt, hf, fun _ _ hm => by cases hm⟩
def lenAt (W : World) (b i : Nat) : Nat := match W.cell? ⟨b, i, none⟩ with | some (.slice _ n _) => n | _ => 0
theorem lenAt_box {W : World} {b i : Nat} {A : Array Value} (h : Box W b A) {a : Option Addr} {n c : Nat} (hi : A[i]? = some (.slice a n c)) : lenAt W b i = n := by
  unfold lenAt
  rw [h.at i hi]
end Go.Proofs.Ytjmikinbdclfbaa
