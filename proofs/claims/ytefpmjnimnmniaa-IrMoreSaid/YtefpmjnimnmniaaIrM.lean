/- A further block: the plain law. -/
import Derived.Test.YtefpmjnimnmniaaIrL2
namespace Go.Proofs.Ytefpmjnimnmniaa
set_option linter.unusedSimpArgs false
set_option linter.unusedVariables false
open Go.RowKit Go.Shelf

def trapB (id n : Int) : BlockD := ⟨[], [⟨1, id, [], n⟩], ⟨4, -1, [], 0⟩⟩
def moreF (f : FuncD) (id n : Int) : FuncD := { f with blocks := f.blocks ++ [trapB id n] }
theorem vals_more (f : FuncD) (id n : Int) : valsF (moreF f id n) = valsF f ++ [(id, 1)] := by
  unfold valsF defsF moreF
  rw [List.flatMap_append, ← List.append_assoc]
  rfl
theorem uses_more (f : FuncD) (id n : Int) : usesF (moreF f id n) = usesF f := by
  unfold usesF moreF
  rw [List.flatMap_append]
  have : [trapB id n].flatMap usesB = [] := rfl
  rw [this, List.append_nil]
theorem size_more (f : FuncD) (id n : Int) : sizeF (moreF f id n) = sizeF f + 2 := by
  unfold sizeF moreF
  rw [List.map_append, List.sum_append]
  rfl
theorem numB_mono {nb : Nat} {b : Int} (h : numB nb b = true) : numB (nb + 1) b = true := by
  unfold numB at h ⊢
  simp at h ⊢; omega
theorem blockOk_mono {nb : Nat} {ar ce : Int} {ib : BlockD × Nat} (h : blockOk nb ar ce ib = true) : blockOk (nb + 1) ar ce ib = true := by
  unfold blockOk at h ⊢
  simp only [Bool.and_eq_true] at h ⊢
  refine ⟨⟨⟨h.1.1.1, ?_⟩, h.1.2⟩, ?_⟩
  · rw [List.all_eq_true]
    intro p hp
    have h1 := (List.all_eq_true.1 h.1.1.2) p hp
    unfold phiOk at h1 ⊢
    simp only [Bool.and_eq_true] at h1 ⊢
    refine ⟨⟨h1.1.1, ?_⟩, h1.2⟩
    rw [List.all_eq_true]
    exact fun b hb => numB_mono (List.all_eq_true.1 h1.1.2 b hb)
  · have h1 := h.2
    unfold endOk at h1 ⊢
    rw [Bool.and_eq_true] at h1 ⊢
    refine ⟨?_, h1.2⟩
    rw [List.all_eq_true]
    intro b hb
    have := List.all_eq_true.1 h1.1 b hb
    simp at this ⊢; omega
theorem tyOf_more {T : List (Int × Int)} {x id t : Int} (h : tyOf T x = some t) : tyOf (T ++ [(id, 1)]) x = some t := by
  unfold tyOf at h ⊢
  rw [List.find?_append]
  cases hf : T.find? (fun p => p.1 == x) with
  | none => rw [hf] at h; cases h
  | some p => rw [hf] at h; simpa using h
theorem tyOf_new {T : List (Int × Int)} {id : Int} (h : id ∉ T.map (·.1)) : tyOf (T ++ [(id, 1)]) id = some 1 := by
  have h1 := tyOf_none.2 h
  unfold tyOf at h1 ⊢
  rw [List.find?_append]
  rw [Option.map_eq_none_iff] at h1
  rw [h1]; simp
theorem check_more {f : FuncD} {id n : Int} (h : checkF f = 0) (hs : sizeF f ≤ 4000) (hb : f.blocks.length ≤ 500) (h1 : (f.params.length : Int) ≤ id) (h2 : id < 1048576) (h3 : id ∉ (valsF f).map (·.1)) : checkF (moreF f id n) = 0 := by
  obtain ⟨hf, hi⟩ := check_ok h
  have h0 := h
  unfold checkF at h0 ⊢
  rw [hf, hi] at h0
  simp only [Bool.and_self, if_true] at h0
  have hform : formB (moreF f id n) = true := by
    unfold formB headOk at hf ⊢
    rw [size_more]
    simp only [moreF, Bool.and_eq_true, decide_eq_true_eq, List.length_append, List.length_cons, List.length_nil] at hf ⊢
    obtain ⟨⟨⟨⟨⟨⟨⟨⟨⟨k1, k2⟩, k3⟩, k4⟩, k5⟩, k6⟩, k7⟩, k8⟩, k9⟩, k10⟩ := hf
    refine ⟨⟨⟨⟨⟨⟨⟨⟨⟨decide_eq_true k1, decide_eq_true k2⟩, decide_eq_true k3⟩, decide_eq_true k4⟩, decide_eq_true k5⟩, by first | omega | exact decide_eq_true (by omega)⟩, by first | omega | exact decide_eq_true (by omega)⟩, by first | omega | exact decide_eq_true (by omega)⟩, k9⟩, ?_⟩
    rw [List.all_eq_true] at k10 ⊢
    intro ib hib
    obtain ⟨b, j⟩ := ib
    rw [List.mem_zipIdx_iff_getElem?] at hib
    simp only at hib
    rw [List.getElem?_append] at hib
    split at hib
    · exact blockOk_mono (k10 (b, j) (by rw [List.mem_zipIdx_iff_getElem?]; exact hib))
    · rename_i hj
      have hj0 : j = f.blocks.length := by
        have := (List.getElem?_eq_some_iff.1 hib).1
        simp at this; omega
      subst hj0
      simp at hib
      subst hib
      unfold blockOk trapB
      simp only [List.all_nil, List.all_cons, List.length_nil, Bool.and_true, Bool.and_eq_true]
      refine ⟨⟨by simp, ?_⟩, ?_⟩
      · unfold instrOk nOk topN; rfl
      · unfold endOk; simp
  have hids : idsF (moreF f id n) = true := by
    have e : idsF (moreF f id n) = idsB f.params.length (parT f.params) (defsF f ++ [(id, 1)]) := by
      unfold idsF defsF moreF
      rw [List.flatMap_append]; rfl
    rw [e, idsB_append, Bool.and_eq_true]
    refine ⟨hi, ?_⟩
    unfold idsB
    rw [Bool.and_eq_true, decide_eq_true_eq]
    refine ⟨?_, by simp; omega⟩
    rw [List.map_append, List.nodup_append]
    refine ⟨vals_nodup h, by simp, fun a ha b hb e' => ?_⟩
    simp at hb
    subst hb; subst e'
    exact h3 ha
  rw [hform, hids]
  simp only [Bool.and_self, if_true]
  rw [vals_more, uses_more]
  have hus := check_uses h
  unfold usesE at h0 ⊢
  have hany : (usesF f).any (fun u => !(tyOf (valsF f ++ [(id, 1)]) u.1).isSome) = false := by
    rw [List.any_eq_false]
    intro u hu
    obtain ⟨t, ht⟩ := Option.isSome_iff_exists.1 (hus u hu)
    rw [tyOf_more ht]; simp
  rw [hany]
  have hodd : (usesF f).any (useOdd (valsF f)) = false := by
    split at h0
    · cases h0
    · split at h0
      · cases h0
      · rename_i h4; simpa using h4
  have hodd2 : (usesF f).any (useOdd (valsF f ++ [(id, 1)])) = false := by
    rw [List.any_eq_false] at hodd ⊢
    intro u hu
    have := hodd u hu
    obtain ⟨t, ht⟩ := Option.isSome_iff_exists.1 (hus u hu)
    unfold useOdd at this ⊢
    rw [tyOf_more ht]
    rw [ht] at this
    exact this
  rw [hodd2]; rfl
theorem count_more {f : FuncD} {id n : Int} (h : checkF f = 0) (h3 : id ∉ (valsF f).map (·.1)) : countU (usesF (moreF f id n)) id = 0 := by
  unfold countU
  rw [uses_more]
  have : (usesF f).countP (fun u => u.1 == id) = 0 := by
    rw [List.countP_eq_zero]
    intro u hu e
    simp at e
    exact h3 (e ▸ tyOf_key (check_uses h u hu))
  rw [this]; rfl
theorem useN_more {f : FuncD} {id n : Int} (h : checkF f = 0) (hm : checkF (moreF f id n) = 0) (h3 : id ∉ (valsF f).map (·.1)) : useN (moreF f id n) id = 0 ∧ typeE (moreF f id n) id = 0 := by
  have he : typeE (moreF f id n) id = 0 := by
    unfold typeE
    rw [if_pos hm, vals_more, tyOf_new h3]; rfl
  refine ⟨?_, he⟩
  unfold useN
  rw [if_pos he, count_more h h3]
/-- The number behind all others. -/
def nextId (f : FuncD) (L : List Int) : Int := if 0 < L.length then L.getD (L.length - 1) 0 + 1 else f.params.length
theorem vals_low {f : FuncD} (h : checkF f = 0) {x : Int} (hx : x ∈ (valsF f).map (·.1)) : 0 ≤ x ∧ x < 1048576 := by
  obtain ⟨p, hp, rfl⟩ := List.mem_map.1 hx
  obtain ⟨h1, h2⟩ := check_ok h
  have hn : f.params.length ≤ 16 := by
    unfold formB headOk at h1
    simp only [Bool.and_eq_true, decide_eq_true_eq] at h1
    exact h1.1.1.1.1.1.1.1.1.1
  unfold idsF idsB at h2
  rw [Bool.and_eq_true, List.all_eq_true] at h2
  unfold valsF at hp
  rcases List.mem_append.1 hp with hp | hp
  · have h3 : p.1 ∈ (parT f.params).map (·.1) := List.mem_map.2 ⟨p, hp, rfl⟩
    rw [parT_keys] at h3
    obtain ⟨i, hi, he⟩ := List.mem_map.1 h3
    rw [List.mem_range] at hi
    rw [← he]
    exact ⟨by omega, by omega⟩
  · have := h2.2 p hp
    simp at this
    exact ⟨by omega, by omega⟩
theorem next_new {f : FuncD} (h : checkF f = 0) {L : List Int} (hL : IdsL f L) : nextId f L ∉ (valsF f).map (·.1) ∧ (f.params.length : Int) ≤ nextId f L ∧ nextId f L ≤ 1048576 := by
  obtain ⟨hr, hm, hl⟩ := hL.1 h
  have hp := ids_pars h hL
  have hn : f.params.length ≤ 16 := by
    have h1 := (check_ok h).1
    unfold formB headOk at h1
    simp only [Bool.and_eq_true, decide_eq_true_eq] at h1
    exact h1.1.1.1.1.1.1.1.1.1
  unfold nextId
  split
  · rename_i h0
    have hlast : L[L.length - 1]? = some (L.getD (L.length - 1) 0) := by
      exact list_at _ _ (by omega)
    have hle : ∀ x ∈ L, x ≤ L.getD (L.length - 1) 0 := fun x hx => by
      obtain ⟨j, hj⟩ := List.mem_iff_getElem?.1 hx
      have hjl := (List.getElem?_eq_some_iff.1 hj).1
      by_cases e : j = L.length - 1
      · rw [e, hlast] at hj; cases hj; exact Int.le_refl _
      · have := hr.lt hj hlast (by omega); omega
    have hlow := vals_low h ((hm _).1 (List.mem_of_getElem? hlast))
    refine ⟨fun hx => ?_, ?_, by omega⟩
    · have := hle _ ((hm _).2 hx); omega
    · by_cases hpp : f.params.length = 0
      · omega
      · obtain ⟨t, ht⟩ := valsF_par (f := f) (j := f.params.length - 1) (by omega)
        have := hle _ ((hm ((f.params.length - 1 : Nat) : Int)).2 (List.mem_map.2 ⟨_, List.mem_of_getElem? ht, rfl⟩))
        omega
  · rename_i h0
    have hvl : (valsF f).length = 0 := by omega
    refine ⟨?_, by omega, by omega⟩
    rw [List.eq_nil_of_length_eq_zero hvl]; simp
theorem elBlock : Elem Try.prog 28 57 (.agg #[.slice none 0 0, .slice none 0 0, .int .i64 0, .int .i64 0, .slice none 0 0, .int .i64 0]) 6 96 := elem_of Try.underlying28 (by kernel_rfl) rfl (by omega)
theorem block_cells {W : World} {ds : List Value} {x : BlockD} (h : BlockR W ds x) : ds.length = 6 ∧ ∀ u ∈ ds, u.oneCell' = true := by
  obtain ⟨v, u, t, rfl, h1, h2, y, rfl, h3, _⟩ := h
  obtain ⟨a1, c1, rfl⟩ := h1.form
  obtain ⟨a2, c2, rfl⟩ := h2.form
  obtain ⟨a3, c3, rfl⟩ := h3.form
  refine ⟨rfl, fun u hu => ?_⟩
  simp at hu
  rcases hu with rfl | rfl | rfl | rfl | rfl | rfl <;> rfl
theorem blocks_cells {W : World} {v : Value} {xs : List BlockD} {cs : List Value} (h1 : Row W v xs.length 6 cs) (h2 : ∀ j x, xs[j]? = some x → BlockR W ((cs.drop (j * 6)).take 6) x) : ∀ u ∈ cs, u.oneCell' = true := by
  intro u hu
  obtain ⟨i, hi, rfl⟩ := List.getElem_of_mem hu
  have hlen := h1.len
  have hj : i / 6 < xs.length := by omega
  have h3 := (block_cells (h2 (i / 6) _ (List.getElem?_eq_getElem hj))).2
  apply h3
  rw [List.mem_iff_getElem?]
  refine ⟨i % 6, ?_⟩
  rw [List.getElem?_take, if_pos (by omega), List.getElem?_drop, show i / 6 * 6 + i % 6 = i by omega]
  simp
/-- The longer function's value. -/
theorem more_val {w W : World} {f : FuncD} {ap ab : Option Addr} {cp cb bi : Nat} {id n : Int} {base : Nat} {bs : List Nat} {E : TypeId} {v : Value} {cs : List Value} {np nb : Nat} (hnp : np = f.params.length) (hnb : nb = f.blocks.length)
    (hv : FuncV w (.agg #[.slice ap np cp, .int .i64 f.arrays, .int .i64 f.cells, .slice ab nb cb]) f) (hW : Below w.heap.size w W)
    (h2 : ∀ j x, f.blocks[j]? = some x → BlockR w ((cs.drop (j * 6)).take 6) x) (hlen : cs.length = nb * 6)
    (hO : Own W base bs E 6 v (nb + 1) (cs ++ [.slice none 0 0, .slice (some ⟨bi, 0, none⟩) 1 1, .int .i64 4, .int .i64 (-1), .slice none 0 0, .int .i64 0])) (hb : nb ≤ 500)
    (hI : Box W bi #[.int .i64 1, .int .i64 id, .slice none 0 0, .int .i64 n]) (hid : In64 id) (hn : In64 n) :
    FuncV W (.agg #[.slice ap np cp, .int .i64 f.arrays, .int .i64 f.cells, v]) (moreF f id n) := by
  subst hnp hnb
  obtain ⟨a, b, e, k1, k2, k3, k4⟩ := hv
  cases e
  refine ⟨_, _, rfl, k1.below hW, k2, k3, cs ++ [.slice none 0 0, .slice (some ⟨bi, 0, none⟩) 1 1, .int .i64 4, .int .i64 (-1), .slice none 0 0, .int .i64 0], ?_, fun j x hj => ?_⟩
  · have := hO.reads (by omega)
    show Row W v (f.blocks ++ [trapB id n]).length 6 _
    rw [List.length_append]
    exact this
  · have hj' : (f.blocks ++ [trapB id n])[j]? = some x := hj
    rw [List.getElem?_append] at hj'
    split at hj'
    · rename_i hlt
      have h3 := BlockR.lasting _ _ _ _ (h2 j x hj') hW
      rw [List.drop_append_of_le_length (by omega), List.take_append_of_le_length (by rw [List.length_drop]; omega)]
      exact h3
    · have hj0 : j = f.blocks.length := by
        have := (List.getElem?_eq_some_iff.1 hj').1
        simp at this; omega
      subst hj0
      simp at hj'
      subst hj'
      rw [← hlen, List.drop_left]
      refine ⟨_, _, _, rfl, SliceOf.nil, ⟨_, Row.of_box (n := 1) (size := 4) hI rfl (by omega), fun j x hj => ?_⟩, _, rfl, ints_nil, (show In64 4 from ⟨by decide, by decide⟩), (show In64 (-1) from ⟨by decide, by decide⟩), (show In64 0 from ⟨by decide, by decide⟩)⟩
      obtain rfl : j = 0 := by have := (List.getElem?_eq_some_iff.1 hj).1; simp [trapB] at this; omega
      simp [trapB] at hj
      subst hj
      exact ⟨_, rfl, ints_nil, (show In64 1 from ⟨by decide, by decide⟩), hid, hn⟩
end Go.Proofs.Ytefpmjnimnmniaa
