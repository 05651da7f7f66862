/- Ranging over a map with whole numbers for keys; sorting a slice of the call's own. -/
import Derived.Test.YtefpmjnimnmniaaSort
import Derived.Maps.RangeWalk
namespace Go.Proofs.Ytefpmjnimnmniaa
set_option linter.unusedSimpArgs false
set_option linter.unusedVariables false
open Go.RowKit Go.Shelf

def anyElem (_ : Value) : Option (DataW Unit × List MemPlace) := some (.nil, [])
theorem intKeys : Go.Maps.Keyed Try.prog 3 := Go.Maps.int_keyed Try.underlying3
theorem lit_wf {x : Int} (h : In64 x) : (Lit.int .i64 x).wf = true := by
  simpa [Lit.wf, IntKind.min, IntKind.max, IntKind.signed, IntKind.bits, In64] using h
theorem keyOf_in {x : Int} (h : In64 x) : keyOf Try.prog 3 (.int .i64 x) = some (.int .i64 x) := by
  simp [keyOf, Try.underlying3, mapKey, lit_wf h]
theorem has_perm {l l' : List (Lit × DataW Unit)} (h : l.Perm l') (k : Lit) : l.any (fun p => p.1.sameKey k) = l'.any (fun p => p.1.sameKey k) := by
  rw [Bool.eq_iff_iff, List.any_eq_true, List.any_eq_true]
  constructor <;> rintro ⟨p, hp, h2⟩
  · exact ⟨p, h.mem_iff.1 hp, h2⟩
  · exact ⟨p, h.mem_iff.2 hp, h2⟩
theorem insert_perm (x : Lit × DataW Unit) : ∀ l : List (Lit × DataW Unit), (DataW.insert x l).Perm (x :: l)
  | [] => List.Perm.refl _
  | y :: r => by
    unfold DataW.insert
    split
    · exact List.Perm.refl _
    · exact ((insert_perm x r).cons y).trans (List.Perm.swap _ _ _)
theorem foldr_perm : ∀ l : List (Lit × DataW Unit), (l.foldr DataW.insert []).Perm l
  | [] => List.Perm.refl _
  | x :: l => (insert_perm x _).trans ((foldr_perm l).cons x)
theorem IMap.owns {w : World} {b : Nat} {T : List (Int × Int)} (h : IMap w b (encT T)) (hk : ∀ p ∈ T, In64 p.1) (hn : T.length ≤ 17592186044416) :
    ∃ D : DataW Unit, w.ownsMap Try.prog 3 anyElem b T.length D ∧ ∀ x, Go.Maps.has D (.int .i64 x) = decide (x ∈ T.map (·.1)) := by
  obtain ⟨es, clock, hh, hm, hb1, hb2⟩ := h.ex
  have hlen : es.size = T.length := by have := congrArg List.length hm; unfold encT at this; simpa using this
  have hkeys : es.toList.map (·.key) = T.map fun p => Value.int .i64 p.1 := by
    have := congrArg (List.map Prod.fst) hm
    unfold encT at this
    simpa [List.map_map, Function.comp_def] using this
  have hrd : ∀ x ∈ es.toList, ∃ p ∈ T, x.key = .int .i64 p.1 := fun x hx => by
    have h1 : x.key ∈ es.toList.map (·.key) := List.mem_map.2 ⟨x, hx, rfl⟩
    rw [hkeys] at h1
    obtain ⟨p, hp, he⟩ := List.mem_map.1 h1
    exact ⟨p, hp, he.symm⟩
  have hrg : ∀ x ∈ es.toList, ∃ p ∈ T, x.key = .int .i64 p.1 ∧ Go.WideElems.rd Try.prog 3 anyElem x = some (.int .i64 p.1, .nil) := fun x hx => by
    obtain ⟨p, hp, he⟩ := hrd x hx
    exact ⟨p, hp, he, by unfold Go.WideElems.rd; rw [he, keyOf_in (hk p hp)]; rfl⟩
  have hnd : (es.toList.map (·.key)).Nodup := by
    rw [hkeys, List.nodup_iff_pairwise_ne, List.pairwise_map]
    have := h.nodup
    unfold encT at this
    rw [List.map_map, List.nodup_iff_pairwise_ne, List.pairwise_map] at this
    exact this.imp fun h1 h2 => h1 (by simpa using h2)
  refine ⟨_, ⟨es, clock, hh, ⟨by unfold maxLen; omega, ⟨hb2, hb1, hnd⟩, fun x hx => ?_⟩, by omega, rfl⟩, fun x => ?_⟩
  · obtain ⟨p, _, _, h2⟩ := hrg x hx
    exact ⟨_, h2⟩
  · show List.any _ _ = _
    rw [has_perm (foldr_perm _), List.any_map, Bool.eq_iff_iff, List.any_eq_true, decide_eq_true_eq]
    constructor
    · rintro ⟨y, hy, h2⟩
      obtain ⟨p, hp, he, hr⟩ := hrg y hy
      have e : Go.WideElems.rg Try.prog 3 anyElem y = (.int .i64 p.1, .nil) := Go.WideElems.rg_of hr
      simp only [Function.comp, e, Lit.sameKey, decide_eq_true_eq] at h2
      exact List.mem_map.2 ⟨p, hp, h2.2⟩
    · intro hx
      obtain ⟨p, hp, rfl⟩ := List.mem_map.1 hx
      have h1 : Value.int .i64 p.1 ∈ es.toList.map (·.key) := by rw [hkeys]; exact List.mem_map.2 ⟨p, hp, rfl⟩
      obtain ⟨y, hy, he⟩ := List.mem_map.1 h1
      obtain ⟨q, hq, he2, hr⟩ := hrg y hy
      refine ⟨y, hy, ?_⟩
      have e : Go.WideElems.rg Try.prog 3 anyElem y = (.int .i64 q.1, .nil) := Go.WideElems.rg_of hr
      have e3 : q.1 = p.1 := by rw [he] at he2; simpa using he2.symm
      simp [Function.comp, e, Lit.sameKey, e3]
/-- What came of a range, and what still comes. -/
def Came (w : World) (b r n : Nat) (D : DataW Unit) (T : List (Int × Int)) (S : List Int) (cnt : Nat) : Prop :=
  S.Nodup ∧ ∃ left : Lit → Bool, w.ranges Try.prog 3 anyElem b r n D left cnt ∧ ∀ x, (x ∈ T.map (·.1) ↔ x ∈ S ∨ left (.int .i64 x) = true) ∧ (x ∈ S → left (.int .i64 x) = false)

section
variable {P : Program} {w : World} {ops : Array Oper} {rest : List Oper} {o : Oper} {a : Act} {Q : Exit → Act → World → Prop}
theorem wpList_range_nil (hg : o.guard = none) (m : Operand) (t : TypeId) (hop : o.op = Op.range t m) {k e : TypeId} (ht : P.underlying t = some (.map k e)) (hm : a.eval m = .map none)
    (hK : wpList P ops Q rest (a.put o.dst (.pointer (some ⟨w.heap.size, 0, none⟩))) (w.alloc (.mapIter none 0 #[] 0))) : wpList P ops Q (o :: rest) a w := by
  refine wpList_plain hg fun K' hK' => ?_
  unfold Oper.wp
  simp [execOp, hop, hm, Instr.range, run_underlying ht, Sem.run_bind, Result.andThen]
  exact hK' _ _ hK
theorem wpList_next_nil (hg : o.guard = none) (it : Operand) (hop : o.op = Op.next it false) {r : Nat} (hit : a.eval it = .pointer (some ⟨r, 0, none⟩)) (hr : w.heap[r]? = some (.mapIter none 0 #[] 0))
    (hK : wpList P ops Q rest (a.put o.dst (.tuple #[.bool false])) w) : wpList P ops Q (o :: rest) a w := by
  refine wpList_plain hg fun K' hK' => ?_
  have hg2 : (Sem.getObj r Sem.pure : Sem Obj).run P w = .ok (.mapIter none 0 #[] 0) w := by simp [Sem.run, hr]
  unfold Oper.wp
  simp [execOp, hop, hit, Instr.next, getObj, hg2, Sem.run_bind, Result.andThen]
  exact hK' _ _ hK
theorem wpList_next_came {w : World} {ops : Array Oper} {rest : List Oper} {o : Oper} {a : Act} {Q : Exit → Act → World → Prop} (hg : o.guard = none) (it : Operand) (hop : o.op = Op.next it false) {b r n : Nat} {D : DataW Unit} {T : List (Int × Int)} {S : List Int} {cnt : Nat}
    (hit : a.eval it = .pointer (some ⟨r, 0, none⟩)) (h : Came w b r n D T S cnt)
    (hDone : (∀ x, x ∈ T.map (·.1) ↔ x ∈ S) → wpList Try.prog ops Q rest (a.put o.dst (.tuple #[.bool false])) w)
    (hMore : ∀ (x : Int) (c : Value) (w' : World) (cnt' : Nat), In64 x → Came w' b r n D T (S ++ [x]) cnt' → cnt' < cnt → w.grownBy w' (some r) → w'.heap.size = w.heap.size →
      (Instr.entry (.pointer (some ⟨r, 0, none⟩))).run Try.prog w' = .ok (.tuple #[.int .i64 x, c]) w' → wpList Try.prog ops Q rest (a.put o.dst (.tuple #[.bool true, .int .i64 x, c])) w') : wpList Try.prog ops Q (o :: rest) a w := by
  obtain ⟨hnd, left, hr, hl⟩ := h
  refine Go.wpList_next_ranges w hg it hop 3 intKeys anyElem (Value.int .i64) id (fun key kl hkey => by obtain ⟨x, rfl, _⟩ := Go.Maps.keyOf_int_inv Try.underlying3 hkey; exact ⟨x, rfl⟩) (fun v y _ => ⟨v, rfl⟩) b r n D left cnt hit hr (fun _ h0 => hDone fun x => ?_) (fun x c kl y w' cnt' hkey hlk _ _ hrg hlt hgr hsz hen => ?_)
  · rw [(hl x).1, h0]; simp
  · obtain ⟨x', hx', rfl, hwf⟩ := Go.Maps.keyOf_int_inv Try.underlying3 hkey
    cases hx'
    have h64 : In64 x := by simpa [Lit.wf, IntKind.min, IntKind.max, IntKind.signed, IntKind.bits, In64] using hwf
    have hno : x ∉ S := fun hm => by have := (hl x).2 hm; rw [this] at hlk; cases hlk
    refine hMore x c w' cnt' h64 ⟨?_, _, hrg, fun z => ⟨?_, fun hz => ?_⟩⟩ hlt hgr hsz hen
    · rw [List.nodup_append]; exact ⟨hnd, by simp, fun p hp q hq e => by simp at hq; subst hq; subst e; exact hno hp⟩
    · rw [(hl z).1, List.mem_append, List.mem_singleton]
      by_cases e : z = x
      · subst e; simp [hlk]
      · simp only [e, or_false, Lit.sameKey, Bool.and_eq_true, Bool.not_eq_true', decide_eq_false_iff_not, true_and, not_false_eq_true, and_true]
    · rw [List.mem_append, List.mem_singleton] at hz
      rcases hz with hz | rfl
      · rw [(hl z).2 hz]; rfl
      · simp [Lit.sameKey]
/-- As wpList_own, and the blocks bs, whatever they hold, are as they were. -/
theorem wpList_own_all (hgd : o.guard = none) (s x : Operand) (t e : TypeId)
    (ho : o.op = .call { callee := .builtin .append, args := #[s, x], argTypes := #[t, t] }) {z : Value} {size bytes : Nat} (he : Elem P t e z size bytes) {base : Nat} {bs : List Nat}
    {v xv : Value} {n m : Nat} {cs news : List Value} (hs : a.eval s = v) (hx : a.eval x = xv) (HO : Own w base bs e size v n cs) (hr : Row w xv m size news)
    (h1 : ∀ u ∈ news, u.oneCell' = true) (h63 : n + m ≤ maxLen) (hbytes : (n + m) * bytes ≤ 140737488355328) (hbase : base ≤ w.heap.size) (hbs : ∀ b ∈ bs, b < w.heap.size)
    (h : ∀ v' w', Own w' base bs e size v' (n + m) (cs ++ news) → (∀ b ∈ bs, w'.heap[b]? = w.heap[b]?) → Below base w w' → wpList P ops Q rest (a.put o.dst v') w') : wpList P ops Q (o :: rest) a w := by
  refine wpList_append_row' hgd s x t e ho he base hs hx HO.row hr h1 h63 hbytes hbase fun v' w' r1 r2 r3 => h v' w' ⟨r1, fun g hg hm => ?_⟩ (fun b hb => ?_) ?_
  · rcases r3 with e3 | e3
    · rw [e3] at hg; exact HO.free g hg hm
    · rw [e3] at hg; cases hg; exact absurd (hbs _ hm) (by omega)
  · exact r2.block b (hbs b hb) (fun e => HO.free b e.symm hb)
  · exact (Below.refl _ _).grown r2 hbase fun k hk => (HO.lt hk).2
end

def sortI (xs : List Int) : List Int := xs.mergeSort fun x y => decide (x ≤ y)
theorem sortI_perm (xs : List Int) : (sortI xs).Perm xs := List.mergeSort_perm _ _
theorem sortI_rise {xs : List Int} (h : xs.Nodup) : Rise (sortI xs) := by
  have h1 : (sortI xs).Pairwise (fun a b => decide (a ≤ b) = true) := List.pairwise_mergeSort (fun a b c h1 h2 => by simp at *; omega) (fun a b => by simp; omega) xs
  have h2 : (sortI xs).Nodup := (sortI_perm xs).nodup_iff.2 h
  unfold Rise
  rw [List.nodup_iff_pairwise_ne] at h2
  exact (h1.and h2).imp fun ⟨a, b⟩ => by simp at a; omega
theorem rise_ext : ∀ {xs ys : List Int}, Rise xs → Rise ys → (∀ x, x ∈ xs ↔ x ∈ ys) → xs = ys
  | [], [], _, _, _ => rfl
  | [], y :: ys, _, _, h => by have := (h y).2 (by simp); cases this
  | x :: xs, [], _, _, h => by have := (h x).1 (by simp); cases this
  | x :: xs, y :: ys, hx, hy, h => by
    unfold Rise at hx hy
    rw [List.pairwise_cons] at hx hy
    have e : x = y := by
      have h1 := (h x).1 (by simp)
      have h2 := (h y).2 (by simp)
      rcases List.mem_cons.1 h1 with h1 | h1
      · exact h1
      · rcases List.mem_cons.1 h2 with h2 | h2
        · exact h2.symm
        · have := hy.1 x h1; have := hx.1 y h2; omega
    subst e
    congr 1
    refine rise_ext hx.2 hy.2 fun z => ⟨fun hz => ?_, fun hz => ?_⟩
    · have h1 := hx.1 z hz
      rcases List.mem_cons.1 ((h z).1 (by simp [hz])) with h2 | h2
      · omega
      · exact h2
    · have h1 := hy.1 z hz
      rcases List.mem_cons.1 ((h z).2 (by simp [hz])) with h2 | h2
      · omega
      · exact h2
theorem sortOwn {w : World} {base : Nat} {u : Value} {xs : List Int} (h : w.ownsRow base 3 1 u xs.length (xs.map (.int .i64))) (hn : xs.length ≤ 17592186044416) (hb : base ≤ w.heap.size) :
    Calls Try.prog 85 #[u] w fun e w' => e = .returned (.tuple #[]) ∧ w'.ownsRow base 3 1 u xs.length ((sortI xs).map (.int .i64)) ∧ Below base w w' := by
  rcases h.2 with ⟨rfl, h0⟩ | ⟨g, cap, cur, rfl, hbg, hh, h1, h2, h3, h4⟩
  · refine (Any.slices_Sort_int_none sortLays none 0 w).mono ?_
    rintro e w' ⟨rfl, rfl⟩
    refine ⟨rfl, ⟨by rw [List.length_map, (sortI_perm xs).length_eq]; simp, .inl ⟨rfl, h0⟩⟩, Below.refl _ _⟩
  · refine (Any.slices_Sort_int sortLays g 0 cap xs w (Go.holds_of_blockI hh (by rw [Nat.mul_one] at h4; exact h4)) (Array.getElem?_eq_some_iff.1 hh).1 (by omega)).mono ?_
    rintro e w' ⟨rfl, nd, os, rfl⟩
    refine ⟨rfl, Go.ownsRow_sortedI (List.mergeSort_perm _ _).length_eq hbg hh h1 h2 h3, ?_⟩
    exact (Below.refl _ _).grown (Go.grownBy_sortedI _) hb fun k hk => by cases hk; exact hbg
end Go.Proofs.Ytefpmjnimnmniaa
