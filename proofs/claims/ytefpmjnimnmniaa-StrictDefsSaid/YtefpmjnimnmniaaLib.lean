/- What the walks of this seat share: slices that read as lists, and how a law's row is closed. -/
import Derived.Test.YtefpmjnimnmniaaRows
import Derived.WalkKit
import Derived.BigQuiet
import Derived.Deep.QuietTactic
import Derived.Handy
import Derived.Lib.Hide
import Derived.ProofKit
import Derived.SizedLaws
import Derived.Laws.AppendOwnNone
import Derived.StillTailTactics
import Derived.Deep.Matrix
import Derived.Deep.AppendLies
import Derived.Deep.RegionHeld3
import Derived.Test.YtefpmjnimnmniaaMath
namespace Go.Proofs.Ytefpmjnimnmniaa
set_option linter.unusedSimpArgs false
set_option linter.unusedVariables false
open Go.RowKit Go.ChangeShapes Go.WideShapes Go.ChangeAt

theorem ret_two {a b c d : Value} (h : a = b) (k : c = d) : Ending.returned (.tuple #[a, c]) = .returned (.tuple #[b, d]) := by rw [h, k]
theorem i64_wrap (z : Int) : IntKind.i64.wrap z = wrap64 z := by simp [IntKind.wrap, IntKind.signed, IntKind.bits, wrap64]; split <;> omega
theorem ret_bool {a b : Bool} (h : a = b) : Ending.returned (.bool a) = .returned (.bool b) := by rw [h]
theorem ret_int {k : IntKind} {a b : Int} (h : a = b) : Ending.returned (.int k a) = .returned (.int k b) := by rw [h]

theorem drewN_two (w : World) (n m : Nat) : ∃ k, (w.drewN n).drewN m = w.drewN k := ⟨n + m, by simp⟩

/-- v is a slice of n elements that lie in the cells cs. -/
structure Row (w : World) (v : Value) (n : Nat) (size : Nat) (cs : List Value) : Prop where
  len : cs.length = n * size
  big : n ≤ 17592186044416
  is : ∃ a cap, v = .slice a n cap ∧ n ≤ cap ∧ cap ≤ maxLen ∧ (a = none → n = 0 ∧ cap = 0) ∧
    ∀ ad, a = some ad → ∀ j u, cs[j]? = some u → w.cell? (ad.add j) = some u

theorem add_zero (ad : Addr) : ad.add 0 = ad := by simp [Addr.add]
theorem add_mk (b o j : Nat) : (⟨b, o, none⟩ : Addr).add j = ⟨b, o + j, none⟩ := by
  unfold Addr.add; split <;> simp_all
theorem add_block (ad : Addr) (j : Nat) : (ad.add j).block = ad.block := by unfold Addr.add; split <;> rfl
theorem add_add (ad : Addr) (i j : Nat) : (ad.add i).add j = ad.add (i + j) := by
  obtain ⟨b, o, s⟩ := ad
  unfold Addr.add
  by_cases hi : i = 0
  · subst hi; simp
  · by_cases hj : j = 0
    · subst hj; simp [hi]
    · simp [hi, hj, Nat.add_assoc]

/-- The parts of a row that is not empty. -/
theorem Row.parts {w : World} {v : Value} {n size : Nat} {cs : List Value} (h : Row w v n size cs) :
    ∃ a cap b off, v = .slice a n cap ∧ n ≤ cap ∧ cap ≤ maxLen ∧ (0 < cs.length → a = some ⟨b, off, none⟩ ∧ b < w.heap.size) ∧
      ∀ j u, cs[j]? = some u → w.cell? ⟨b, off + j, none⟩ = some u := by
  obtain ⟨hl, hbig, a, cap, rfl, hnc, hcm, hnone, hc⟩ := h
  cases a with
  | none =>
    have := (hnone rfl).1
    subst this
    have h0 : cs = [] := List.eq_nil_of_length_eq_zero (by simpa using hl)
    subst h0
    exact ⟨none, cap, 0, 0, rfl, hnc, hcm, by simp, by simp⟩
  | some ad =>
    obtain ⟨b, o, s⟩ := ad
    cases cs with
    | nil => exact ⟨some ⟨b, o, s⟩, cap, 0, 0, rfl, hnc, hcm, by simp, by simp⟩
    | cons c cs =>
      have h0 := hc _ rfl 0 c rfl
      have hs : s = none := by simpa [Addr.add] using World.cell?_spot h0
      subst hs
      refine ⟨some ⟨b, o, none⟩, cap, b, o, rfl, hnc, hcm, fun _ => ⟨rfl, ?_⟩, fun j u hj => ?_⟩
      · simpa [Addr.add] using World.block_lt_of_cell? w _ h0
      · rw [← add_mk]; exact hc _ rfl j u hj

theorem Row.below {w w' : World} {v : Value} {n size : Nat} {cs : List Value} (h : Row w v n size cs) (hb : Below w.heap.size w w') : Row w' v n size cs := by
  obtain ⟨hl, hbig, a, cap, rfl, hnc, hcm, hnone, hc⟩ := h
  refine ⟨hl, hbig, a, cap, rfl, hnc, hcm, hnone, fun ad ha j u hj => ?_⟩
  have := hc ad ha j u hj
  rw [hb.cell (World.block_lt_of_cell? w _ this)]
  exact this

/-- A row without its last elements. -/
theorem Row.take {w : World} {a : Option Addr} {n cap size k : Nat} {cs : List Value} (h : Row w (.slice a n cap) n size cs) (hk : k ≤ n) : Row w (.slice a k cap) k size (cs.take (k * size)) := by
  obtain ⟨hl, hbig, a', cap', he, hnc, hcm, hnone, hc⟩ := h
  cases he
  refine ⟨?_, by omega, a, cap, rfl, by omega, hcm, fun e => ⟨by have := (hnone e).1; omega, (hnone e).2⟩, fun ad ha j u hj => hc ad ha j u ?_⟩
  · rw [List.length_take, hl]
    exact Nat.min_eq_left (Nat.mul_le_mul_right _ hk)
  · rw [List.getElem?_take] at hj
    split at hj
    · exact hj
    · cases hj

theorem Row.nil {w : World} {size : Nat} : Row w (.slice none 0 0) 0 size [] := ⟨by simp, by omega, none, 0, rfl, by omega, by simp [maxLen], fun _ => ⟨rfl, rfl⟩, by simp⟩

theorem Row.of_own {w : World} {base : Nat} {e : TypeId} {size : Nat} {v : Value} {n : Nat} {cs : List Value} (h : w.ownsRow base e size v n cs) (hn : n ≤ 17592186044416) : Row w v n size cs := by
  have h0 := h
  obtain ⟨hl, h1⟩ := h
  rcases h1 with ⟨rfl, rfl⟩ | ⟨g, cap, cur, rfl, hg, hh, hnc, hcm, hcs, htake⟩
  · have : cs = [] := List.eq_nil_of_length_eq_zero (by simpa using hl)
    subst this
    exact Row.nil
  · refine ⟨hl, hn, _, cap, rfl, hnc, hcm, by simp, fun ad ha j u hj => ?_⟩
    cases ha
    exact h0.cells (g := g) rfl j u hj

/-- v reads as the list xs of whole numbers. -/
def Ints (w : World) (v : Value) (xs : List Int) : Prop := Row w v xs.length 1 (xs.map (.int .i64)) ∧ ∀ x ∈ xs, In64 x

theorem Ints.below {w w' : World} {v : Value} {xs : List Int} (h : Ints w v xs) (hb : Below w.heap.size w w') : Ints w' v xs := ⟨h.1.below hb, h.2⟩
theorem Ints.drewN {w : World} {v : Value} {xs : List Int} (h : Ints w v xs) (n : Nat) : Ints (w.drewN n) v xs := h.below ⟨rfl, rfl, rfl, Nat.le_refl _, fun _ _ => rfl⟩
theorem Ints.nil {w : World} : Ints w (.slice none 0 0) [] := ⟨Row.nil, by simp⟩
theorem Ints.le {w : World} {v : Value} {xs : List Int} (h : Ints w v xs) : xs.length ≤ 17592186044416 := h.1.big
theorem Ints.take {w : World} {a : Option Addr} {n cap k : Nat} {xs : List Int} (h : Ints w (.slice a n cap) xs) (hk : k ≤ xs.length) : Ints w (.slice a k cap) (xs.take k) := by
  have hn : n = xs.length := by obtain ⟨a', c', he, _⟩ := h.1.is; cases he; rfl
  subst hn
  have := h.1.take hk
  refine ⟨?_, fun x hx => h.2 x (List.mem_of_mem_take hx)⟩
  have e : (xs.take k).length = k := by rw [List.length_take]; omega
  rw [e, List.map_take]
  simpa using this
theorem Ints.of_own {w : World} {base : Nat} {e : TypeId} {v : Value} {xs : List Int} (h : w.ownsRow base e 1 v xs.length (xs.map (.int .i64))) (hn : xs.length ≤ 17592186044416) (hx : ∀ x ∈ xs, In64 x) : Ints w v xs :=
  ⟨Row.of_own h hn, hx⟩

/-- What a walk wants of a list of numbers: its form, its address where it is not empty, each cell. -/
theorem Ints.parts {w : World} {v : Value} {xs : List Int} (h : Ints w v xs) :
    ∃ a cap b off, v = .slice a xs.length cap ∧ xs.length ≤ cap ∧ cap ≤ 9223372036854775807 ∧ (0 < xs.length → a = some ⟨b, off, none⟩ ∧ b < w.heap.size) ∧
      ∀ j, j < xs.length → w.cell? ⟨b, off + j, none⟩ = some (.int .i64 (xs.getD j 0)) := by
  obtain ⟨a, cap, b, off, hv, h1, h2, h3, h4⟩ := h.1.parts
  refine ⟨a, cap, b, off, hv, h1, by unfold maxLen at h2; omega, by simpa using h3, fun j hj => h4 j _ ?_⟩
  simp [List.getD_eq_getElem?_getD, hj]

theorem Ints.getD {w : World} {v : Value} {xs : List Int} (h : Ints w v xs) (j : Nat) : In64 (xs.getD j 0) := by
  rw [List.getD_eq_getElem?_getD]
  by_cases hj : j < xs.length
  · simp only [List.getElem?_eq_getElem hj, Option.getD_some]
    exact h.2 _ (List.getElem_mem hj)
  · rw [List.getElem?_eq_none (by omega)]
    exact ⟨by decide, by decide⟩

/-- A list of numbers that came in. -/
theorem open_Ints {H : Type} {enc : TypeId × Value → H} {P : Program} {W : World} {t e : TypeId} {v : Value} {d : DataW H} {ps : List MemPlace} (ht : P.underlying t = some (.slice e)) (he : P.underlying e = some (.int .i64))
    (hc : P.cellsOf e = 1) (hb : P.bytesOf e = 8) (h : DataW.Trod enc P W 0 (fun _ => true) true t v d ps) (hv : ∃ a n c, v = .slice a n c)
    (hz : ∀ elems spare, d = .slice elems spare → (elems.length + spare.length) * P.bytesOf e ≤ reachBytes) : ∃ xs, Ints W v xs := by
  obtain ⟨fuel, hf⟩ := h
  obtain ⟨a, n, c, rfl⟩ := hv
  rcases open_ints ht he hc hf with ⟨hcs, hx⟩ | ⟨a', len', cap', zs, hcs, _, hl, hm, hz', hx, hcell, hwz⟩
  · simp [Value.cells] at hcs
    obtain ⟨rfl, rfl, rfl⟩ := hcs
    exact ⟨[], Ints.nil⟩
  · simp [Value.cells] at hcs
    obtain ⟨rfl, rfl, rfl⟩ := hcs
    simp only [Prod.mk.injEq] at hx
    obtain ⟨rfl, rfl⟩ := hx
    simp only [if_true] at hz'
    have hr := hz _ _ rfl
    rw [hb] at hr
    simp only [lits, List.length_map, List.length_take, List.length_drop, reachBytes] at hr
    have hlen : (zs.take n).length = n := by rw [List.length_take]; omega
    refine ⟨zs.take n, ⟨⟨by simp, by omega, some a', c, by rw [hlen], by omega, hm, by simp, fun ad ha j u hj => ?_⟩, fun x hx => ?_⟩⟩
    · cases ha
      simp only [List.getElem?_map, List.getElem?_take] at hj
      split at hj
      · rename_i hjn
        have hjz : j < zs.length := by omega
        rw [hcell j hjz]
        simpa [List.getD_eq_getElem?_getD, hjz] using hj
      · simp at hj
    · have := hwz x (List.mem_of_mem_take hx)
      simpa [Lit.wf, IntKind.min, IntKind.max, IntKind.signed, IntKind.bits, In64] using this

theorem weightsAll_mem {H : Type} {P : Program} {e : TypeId} {d : DataW H} : ∀ {l : List (DataW H)}, d ∈ l → ∀ n ∈ d.weights P e, n ∈ DataW.weightsAll P e l
  | [], h, _, _ => by simp at h
  | x :: l, h, n, hn => by
    simp only [DataW.weightsAll, List.mem_append]
    rcases List.mem_cons.1 h with rfl | h
    · exact .inl hn
    · exact .inr (weightsAll_mem h n hn)

/-- HOW A LAW's ROW IS CLOSED: what the row asks behind the call, where the call has turned nothing that was there. -/
theorem law_post {H : Type} {enc : TypeId × Value → H} {P : Program} {fn : Func} {s : ChangeSpec} {tb : TypeId} {W W' : World} {args : Array Value} {ds gs : List (DataW H)} {before : List MemPlace}
    (hl : laidOutB P = true) (hvars : s.vars = []) (hread : ∀ t ∈ fn.params.toList, P.readableRec t = true ∧ t < P.types.size)
    (hres : fn.resultTypes = #[tb]) (htb : P.underlying tb = some .bool)
    (hfn : (s.fn H (ds ++ gs)).results = [.lit (.bool true)] ∧ (s.fn H (ds ++ gs)).args = ds ∧ (s.fn H (ds ++ gs)).vars = [])
    (hW : DataW.Whole enc P fn.params.toList s.vars false W args.toList ds gs before) (hb : Below W.heap.size W W') :
    s.post enc P fn false true false false W args (.bool true) W' := by
  have hW' := hW
  obtain ⟨p, q, hA, hV, rfl, hfz, hnd⟩ := hW
  have hlt : ∀ x ∈ p, x.block < W.heap.size := fun x hx => by
    have := hW'.lt x (List.mem_append.2 (.inl hx))
    simpa using this
  rw [hvars] at hV
  obtain ⟨rfl, rfl⟩ := trodVars_none hV
  obtain ⟨e1, e2, e3⟩ := hfn
  refine ⟨ds, [], p ++ [], [], p, [], hW', ?_, ?_, ?_, hb.frame _, fun h => by cases h⟩
  · rw [e1, hres]
    exact trodAll_mk1 (shut_bool htb _)
  · rw [e2]
    clear hfz hnd hW' e1 e2 e3
    generalize fn.params.toList = ts at hA hread ⊢
    generalize args.toList = vs at hA ⊢
    induction ts generalizing vs ds p with
    | nil =>
      cases vs <;> cases ds <;> simp_all [DataW.TrodAll]
    | cons t ts ih =>
      cases vs with
      | nil => simp [DataW.TrodAll] at hA
      | cons v vs =>
        cases ds with
        | nil => simp [DataW.TrodAll] at hA
        | cons d ds =>
          obtain ⟨p1, q1, h1, h2, rfl⟩ := hA
          exact ⟨p1, q1, Below.trod hl (hread t (by simp)).1 (hread t (by simp)).2 h1 hb (fun x hx => hlt x (List.mem_append.2 (.inl hx))),
            ih q1 (fun x hx => hlt x (List.mem_append.2 (.inr hx))) (fun t ht => hread t (List.mem_cons_of_mem _ ht)) vs h2, rfl⟩
  · rw [hvars, e3]; exact hV


/-- v reads as a list of lists of whole numbers. -/
def Lists (w : World) (v : Value) (xss : List (List Int)) : Prop :=
  ∃ vs : List Value, vs.length = xss.length ∧ Row w v xss.length 1 vs ∧ ∀ j, j < xss.length → Ints w (vs.getD j undef) (xss.getD j [])

theorem Lists.below {w w' : World} {v : Value} {xss : List (List Int)} (h : Lists w v xss) (hb : Below w.heap.size w w') : Lists w' v xss := by
  obtain ⟨vs, h1, h2, h3⟩ := h
  exact ⟨vs, h1, h2.below hb, fun j hj => (h3 j hj).below hb⟩

theorem Lists.take {w : World} {a : Option Addr} {n cap k : Nat} {xss : List (List Int)} (h : Lists w (.slice a n cap) xss) (hk : k ≤ xss.length) : Lists w (.slice a k cap) (xss.take k) := by
  obtain ⟨vs, h1, h2, h3⟩ := h
  have hn : n = xss.length := by obtain ⟨a', c', he, _⟩ := h2.is; cases he; rfl
  subst hn
  have hl : (xss.take k).length = k := by rw [List.length_take]; omega
  have := h2.take hk
  rw [Nat.mul_one] at this
  refine ⟨vs.take k, by rw [List.length_take, hl]; omega, by rw [hl]; exact this, fun j hj => ?_⟩
  rw [hl] at hj
  have e1 : (vs.take k).getD j undef = vs.getD j undef := by simp [List.getD_eq_getElem?_getD, hj]
  have e2 : (xss.take k).getD j [] = xss.getD j [] := by simp [List.getD_eq_getElem?_getD, hj]
  rw [e1, e2]
  exact h3 j (by omega)

theorem Lists.parts {w : World} {v : Value} {xss : List (List Int)} (h : Lists w v xss) :
    ∃ (vs : List Value) (a : Option Addr) (cap b off : Nat), v = .slice a xss.length cap ∧ xss.length ≤ cap ∧ cap ≤ 9223372036854775807 ∧ xss.length ≤ 17592186044416 ∧ (0 < xss.length → a = some ⟨b, off, none⟩ ∧ b < w.heap.size) ∧
      (∀ j, j < xss.length → w.cell? ⟨b, off + j, none⟩ = some (vs.getD j undef)) ∧ ∀ j, j < xss.length → Ints w (vs.getD j undef) (xss.getD j []) := by
  obtain ⟨vs, h1, h2, h3⟩ := h
  obtain ⟨a, cap, b, off, hv, k1, k2, k3, k4⟩ := h2.parts
  refine ⟨vs, a, cap, b, off, hv, k1, by unfold maxLen at k2; omega, h2.big, by rw [← h1]; exact k3, fun j hj => k4 j _ ?_, h3⟩
  simp [List.getD_eq_getElem?_getD, h1, hj]

theorem Ints.form {w : World} {v : Value} {xs : List Int} (h : Ints w v xs) : ∃ a c, v = .slice a xs.length c := by
  obtain ⟨a, c, hv, _⟩ := h.1.is
  exact ⟨a, c, hv⟩

/-- A list of lists that came in. -/
theorem open_Lists {H : Type} {enc : TypeId × Value → H} {P : Program} {W : World} {t e q : TypeId} {v : Value} {d : DataW H} {ps : List MemPlace} (ht : P.underlying t = some (.slice e)) (he : P.underlying e = some (.slice q)) (hq : P.underlying q = some (.int .i64))
    (ce : P.cellsOf e = 1) (cq : P.cellsOf q = 1) (be : P.bytesOf e = 24) (bq : P.bytesOf q = 8) (h : DataW.Trod enc P W 0 (fun _ => true) true t v d ps) (hv : ∃ a n c, v = .slice a n c)
    (hz : ∀ n ∈ d.weights P t, n ≤ reachBytes) : ∃ xss, Lists W v xss := by
  obtain ⟨fuel, hf⟩ := h
  obtain ⟨a, n, c, rfl⟩ := hv
  rcases Go.Deep.open_int_rows ht he hq ce cq hf with ⟨hcs, hx⟩ | ⟨a', len', cap', A, L, C, Z, hcs, _, hl, hm, hx, hrow⟩
  · simp [Value.cells] at hcs
    obtain ⟨rfl, rfl, rfl⟩ := hcs
    exact ⟨[], [], rfl, Row.nil, by simp⟩
  · simp [Value.cells] at hcs
    obtain ⟨rfl, rfl, rfl⟩ := hcs
    simp only [Prod.mk.injEq] at hx
    obtain ⟨rfl, rfl⟩ := hx
    have hr := hz ((n + (c - n)) * 24) (by simp [DataW.weights, ht, be])
    simp only [reachBytes] at hr
    refine ⟨(List.range n).map fun r => (Z r).take (L r), (List.range n).map fun r => .slice (A r) (L r) (C r), by simp, ⟨by simp, by simp; omega, some a', c, by simp, by simp; omega, hm, by simp, fun ad ha j u hj => ?_⟩, fun j hj => ?_⟩
    · cases ha
      by_cases hjn : j < n
      · rw [(hrow j (by omega)).1]
        simpa [hjn] using hj
      · simp [hjn] at hj
    · have hjn : j < n := by simpa using hj
      obtain ⟨h1, h2, h3, h4, h5, h6, h7⟩ := hrow j (by omega)
      have e1 : ((List.range n).map fun r => Value.slice (A r) (L r) (C r)).getD j undef = .slice (A j) (L j) (C j) := by simp [List.getD_eq_getElem?_getD, hjn]
      have e2 : ((List.range n).map fun r => (Z r).take (L r)).getD j [] = (Z j).take (L j) := by simp [List.getD_eq_getElem?_getD, hjn]
      rw [e1, e2]
      have hlen : ((Z j).take (L j)).length = L j := by rw [List.length_take]; omega
      have hbig : C j * 8 ≤ reachBytes ∨ A j = none := by
        cases hA : A j with
        | none => exact .inr rfl
        | some ad =>
          refine .inl (hz _ ?_)
          simp only [DataW.weights, ht, List.mem_cons, List.mem_append]
          refine .inr (.inl (weightsAll_mem (d := Go.Deep.intRow .i64 (A j) (L j) (Z j)) (List.mem_map.2 ⟨j, by simpa using hjn, rfl⟩) _ ?_))
          rw [hA]
          simp only [Go.Deep.intRow, DataW.weights, he, bq, List.mem_cons]
          left
          simp only [lits, List.length_map, List.length_take, List.length_drop]
          congr 1; omega
      have hC : C j ≤ 17592186044416 := by
        rcases hbig with h | h
        · simp only [reachBytes] at h; omega
        · have := h6 h; omega
      refine ⟨⟨by simp, by omega, A j, C j, by rw [hlen], by omega, h3, fun h => by have := h6 h; omega, fun ad ha i u hi => ?_⟩, fun x hx => ?_⟩
      · have hil : i < L j := by
          have := (List.getElem?_eq_some_iff.1 hi).1
          simp at this; omega
        rw [(h7 ad ha).2 i (by omega)]
        have hiz : i < (Z j).length := by omega
        simp only [List.getElem?_map, List.getElem?_take, if_pos hil, List.getElem?_eq_getElem hiz, Option.map_some] at hi
        rw [← hi, List.getD_eq_getElem?_getD, List.getElem?_eq_getElem hiz]; rfl
      · have := h5 x (List.mem_of_mem_take hx)
        simpa [Lit.wf, IntKind.min, IntKind.max, IntKind.signed, IntKind.bits, In64] using this

theorem grownBy_refl (w : World) (r : Option Nat) : w.grownBy w r := ⟨rfl, rfl, rfl, Nat.le_refl _, fun _ _ _ => rfl⟩

/-- What a type's table says of an element's type: its zero, its cells, its bytes. -/
structure Elem (P : Program) (t e : TypeId) (z : Value) (size bytes : Nat) : Prop where
  slice : P.underlying t = some (.slice e)
  info : ∃ i, P.info? e = some i ∧ i.zero = some z ∧ i.size = size ∧ i.bytes = bytes
  zcells : z.cells.size = size
  pos : 0 < size

theorem elem_of {P : Program} {t e : TypeId} {z : Value} {size bytes : Nat} (ht : P.underlying t = some (.slice e)) (hi : (P.info? e).map (fun i => (i.zero, i.size, i.bytes)) = some (some z, size, bytes))
    (hz : z.cells.size = size) (hp : 0 < size) : Elem P t e z size bytes := by
  obtain ⟨i, h1, h2, h3, h4⟩ := info_parts hi
  exact ⟨ht, ⟨i, h1, h2, h3, h4⟩, hz, hp⟩

/-- append(s, x...): s is the call's own, x whatever reads as a row. -/
theorem wpList_append_row {P : Program} {w : World} {ops : Array Oper} {rest : List Oper} {o : Oper} {a : Act} {Q : Exit → Act → World → Prop} (hgd : o.guard = none) (s x : Operand) (t e : TypeId)
    (ho : o.op = .call { callee := .builtin .append, args := #[s, x], argTypes := #[t, t] }) {z : Value} {size bytes : Nat} (he : Elem P t e z size bytes) (base : Nat)
    {v xv : Value} {n m : Nat} {cs news : List Value} (hs : a.eval s = v) (hx : a.eval x = xv) (hown : w.ownsRow base e size v n cs) (hr : Row w xv m size news)
    (h1 : ∀ u ∈ news, u.oneCell' = true) (h63 : n + m ≤ maxLen) (hbytes : (n + m) * bytes ≤ 140737488355328) (hbase : base ≤ w.heap.size)
    (h : ∀ v' w', w'.ownsRow base e size v' (n + m) (cs ++ news) → w.grownBy w' v.ownBlock → wpList P ops Q rest (a.put o.dst v') w') : wpList P ops Q (o :: rest) a w := by
  obtain ⟨ht, ⟨i, hi, hz, hsz, hby⟩, hzc, hp⟩ := he
  obtain ⟨hl, hbig, ad, cap, rfl, hnc, hcm, hnone, hc⟩ := hr
  cases ad with
  | none =>
    obtain ⟨rfl, rfl⟩ := hnone rfl
    have h0 : news = [] := List.eq_nil_of_length_eq_zero (by simpa using hl)
    subst h0
    refine wpList_append_own_none hgd s x t ho base e i size ht hi v n cs hs hown hx (h v w ?_ (grownBy_refl _ _))
    simpa using hown
  | some ad =>
    exact wpList_append_own w hgd s x t ho base e i z size bytes ht hi hz hsz hby hzc hp v n cs hs hown ad m cap news hx hl (fun j u hj => hc ad rfl j u hj) h1 h63 hbytes hbase
      (fun v' w' a1 a2 _ => h v' w' a1 a2)

theorem oneCell_int (xs : List Int) : ∀ u ∈ xs.map (Value.int .i64), u.oneCell' = true := by
  intro u hu; obtain ⟨x, -, rfl⟩ := List.mem_map.1 hu; rfl

/-- The same, of whole numbers. -/
theorem wpList_append_ints {P : Program} {w : World} {ops : Array Oper} {rest : List Oper} {o : Oper} {a : Act} {Q : Exit → Act → World → Prop} (hgd : o.guard = none) (s x : Operand) (t e : TypeId)
    (ho : o.op = .call { callee := .builtin .append, args := #[s, x], argTypes := #[t, t] }) (he : Elem P t e (.int .i64 0) 1 8) (base : Nat)
    {v xv : Value} {xs ys : List Int} (hs : a.eval s = v) (hx : a.eval x = xv) (hown : w.ownsRow base e 1 v xs.length (xs.map (.int .i64))) (hr : Ints w xv ys)
    (hlen : xs.length + ys.length ≤ 17592186044416) (hbase : base ≤ w.heap.size)
    (h : ∀ v' w', w'.ownsRow base e 1 v' (xs ++ ys).length ((xs ++ ys).map (.int .i64)) → w.grownBy w' v.ownBlock → wpList P ops Q rest (a.put o.dst v') w') : wpList P ops Q (o :: rest) a w :=
  wpList_append_row hgd s x t e ho he base hs hx hown hr.1 (oneCell_int _) (by unfold maxLen; omega) (by omega) hbase
    (fun v' w' a1 a2 => h v' w' (by simpa using a1) a2)

/-- The run of an append to a slice of the call's own: what comes, where it lies, and that the cells that were there are there still. -/
theorem run_append_full {P : Program} {w : World} {t ty e : TypeId} {z : Value} {size bytes : Nat} (he : Elem P t e z size bytes) (base : Nat)
    {v xv : Value} {n m : Nat} {cs news : List Value} (hown : w.ownsRow base e size v n cs) (hr : Row w xv m size news)
    (h1 : ∀ u ∈ news, u.oneCell' = true) (h63 : n + m ≤ maxLen) (hbytes : (n + m) * bytes ≤ 140737488355328) (hbase : base ≤ w.heap.size) :
    ∃ v' w', (Builtin.append_ #[t, t] ty #[v, xv]).run P w = .ok v' w' ∧ w'.ownsRow base e size v' (n + m) (cs ++ news) ∧ w.grownBy w' v.ownBlock ∧ (v'.ownBlock = v.ownBlock ∨ v'.ownBlock = some w.heap.size) ∧
      (∀ g j, v.ownBlock = some g → j < n * size → w'.cell? ⟨g, j, none⟩ = w.cell? ⟨g, j, none⟩) ∧ (0 < m → ∃ g cap, v' = .slice (some ⟨g, 0, none⟩) (n + m) cap ∧ g < w'.heap.size) := by
  obtain ⟨ht, ⟨i, hi, hz, hsz, hby⟩, hzc, hp⟩ := he
  obtain ⟨hl, hbig, ad, cap, rfl, hnc, hcm, hnone, hc⟩ := hr
  cases ad with
  | none =>
    obtain ⟨rfl, rfl⟩ := hnone rfl
    have h0 : news = [] := List.eq_nil_of_length_eq_zero (by simpa using hl)
    subst h0
    have hrun := run_append_owned_none (P := P) (w := w) base t ty e i size ht hi v n cs hown
    exact ⟨v, w, hrun, by simpa using hown, grownBy_refl _ _, .inl rfl, fun _ _ _ _ => rfl, by omega⟩
  | some ad =>
    have hc' : ∀ j u, news[j]? = some u → w.cell? (ad.add j) = some u := fun j u hj => hc ad rfl j u hj
    obtain ⟨v', w', hrun, r1, r2, -⟩ := run_append_own (P := P) w base t ty e i z size bytes ht hi hz hsz hby hzc hp v n cs hown ad m cap news hl hc' h1 h63 hbytes hbase
    have hex : (v'.ownBlock = v.ownBlock ∨ v'.ownBlock = some w.heap.size) ∧ (∀ g j, v.ownBlock = some g → j < n * size → w'.cell? ⟨g, j, none⟩ = w.cell? ⟨g, j, none⟩) := by
      subst hsz
      subst hby
      have hsmall : n + m ≤ 9223372036854775807 := by simp only [maxLen] at h63; omega
      rcases hown.2 with ⟨rfl, rfl⟩ | ⟨g, cap2, cur, rfl, hbg, hg, hnc2, hcm2, hcs, htake⟩
      · refine ⟨?_, fun g j h => by simp [Value.ownBlock] at h⟩
        by_cases hm : m = 0
        · subst hm
          have hn0 : news = [] := List.eq_nil_of_length_eq_zero (by simpa using hl)
          subst hn0
          have hr2 : (Builtin.append_ #[t, t] ty #[.slice none 0 0, .slice (some ad) 0 cap]).run P w = .ok (.slice none 0 0) w := by
            simp [Builtin.append_, run_underlying ht, sizeOf, typeInfo, hi, Builtin.lenOf, Builtin.firstCells, loadCells, loadCellsFrom]
          rw [hrun] at hr2
          injection hr2 with e1 e2
          exact .inl (by rw [e1])
        · have hr2 := run_append_nil (P := P) w t ty e i z ht hi hz ad m cap news hl hc' (by omega) (by omega) (by have hb := hbytes; simp only [Nat.zero_add] at hb; omega)
          rw [hrun] at hr2
          injection hr2 with e1 e2
          exact .inr (by rw [e1]; rfl)
      · by_cases hroom : n + m ≤ cap2
        · have hfit : n * i.size + news.length ≤ cur.size := by rw [hl, hcs, ← Nat.add_mul]; exact Nat.mul_le_mul_right _ hroom
          have hr2 := run_append_room (P := P) w t ty e i ht hi g n cap2 cur hg ad m cap news hl hc' h1 hroom hfit
          rw [hrun] at hr2
          injection hr2 with e1 e2
          refine ⟨.inl (by rw [e1]; rfl), fun g' j hg' hj => ?_⟩
          simp only [Value.ownBlock, Option.some.injEq] at hg'
          subst hg'
          rw [e2]
          have hh := setRow_heap w g cur (cur.toList.take (n * i.size) ++ news ++ cur.toList.drop (n * i.size + news.length)).toArray e _ hg
          have hjc : j < cur.size := by omega
          simp only [World.cell?, hg, hh]
          simp [List.getElem?_append, List.length_take, Nat.min_eq_left (show n * i.size ≤ cur.size by omega), hj, show j < n * i.size + news.length by omega, List.getElem?_take]
        · have holds : ∀ j u, cs[j]? = some u → w.cell? ((⟨g, 0, none⟩ : Addr).add j) = some u := hown.cells (g := g) rfl
          have hr2 := run_append_grow (P := P) w t ty e i z ht hi hz ⟨g, 0, none⟩ n cap2 cs hown.1 holds ad m cap news hl hc' (by omega) (by omega) (growslice_fits (by omega) hbytes)
          rw [hrun] at hr2
          injection hr2 with e1 e2
          refine ⟨.inr (by rw [e1]; rfl), fun g' j hg' hj => ?_⟩
          simp only [Value.ownBlock, Option.some.injEq] at hg'
          subst hg'
          rw [e2, World.cell?_alloc_past _ _ _ (by simpa using (Array.getElem?_eq_some_iff.1 hg).1)]
          rfl
    refine ⟨v', w', hrun, r1, r2, hex.1, hex.2, fun hm => ?_⟩
    rcases r1.2 with ⟨-, h0⟩ | ⟨g, cap3, cur, rfl, -, hh, -⟩
    · omega
    · exact ⟨g, cap3, rfl, (Array.getElem?_eq_some_iff.1 hh).1⟩

/-- The same, and where the new slice lies. -/
theorem wpList_append_row' {P : Program} {w : World} {ops : Array Oper} {rest : List Oper} {o : Oper} {a : Act} {Q : Exit → Act → World → Prop} (hgd : o.guard = none) (s x : Operand) (t e : TypeId)
    (ho : o.op = .call { callee := .builtin .append, args := #[s, x], argTypes := #[t, t] }) {z : Value} {size bytes : Nat} (he : Elem P t e z size bytes) (base : Nat)
    {v xv : Value} {n m : Nat} {cs news : List Value} (hs : a.eval s = v) (hx : a.eval x = xv) (hown : w.ownsRow base e size v n cs) (hr : Row w xv m size news)
    (h1 : ∀ u ∈ news, u.oneCell' = true) (h63 : n + m ≤ maxLen) (hbytes : (n + m) * bytes ≤ 140737488355328) (hbase : base ≤ w.heap.size)
    (h : ∀ v' w', w'.ownsRow base e size v' (n + m) (cs ++ news) → w.grownBy w' v.ownBlock → (v'.ownBlock = v.ownBlock ∨ v'.ownBlock = some w.heap.size) → wpList P ops Q rest (a.put o.dst v') w') : wpList P ops Q (o :: rest) a w := by
  obtain ⟨v', w', hrun, r1, r2, r3, -, -⟩ := run_append_full (ty := o.type) he base hown hr h1 h63 hbytes hbase
  refine wpList_plain hgd fun K hK => ?_
  unfold Oper.wp execOp
  simp only [ho, resolve, invoke, builtin, Sem.run_bind, Sem.run_pure, Result.andThen_ok, List.map_toArray, List.map_cons, List.map_nil, hs, hx, hrun]
  exact hK _ _ (h v' w' r1 r2 r3)

/-- In a region that draws its order. -/
theorem step_append_row {P : Program} {w : World} {ops : Array Oper} {o : Oper} {a : Act} {K : Act → World → Prop} {Q : Exit → Act → World → Prop} {E : Prop} (hgd : o.guard = none) (s x : Operand) (t e : TypeId)
    (ho : o.op = .call { callee := .builtin .append, args := #[s, x], argTypes := #[t, t] }) {z : Value} {size bytes : Nat} (he : Elem P t e z size bytes) (base : Nat)
    {v xv : Value} {n m : Nat} {cs news : List Value} (hs : a.eval s = v) (hx : a.eval x = xv) (hown : w.ownsRow base e size v n cs) (hr : Row w xv m size news)
    (h1 : ∀ u ∈ news, u.oneCell' = true) (h63 : n + m ≤ maxLen) (hbytes : (n + m) * bytes ≤ 140737488355328) (hbase : base ≤ w.heap.size) (hm : 0 < m) (H : Nat) (hH : w.heap.size = H)
    (h : ∀ g cap w', w'.ownsRow base e size (.slice (some ⟨g, 0, none⟩) (n + m) cap) (n + m) (cs ++ news) → w.grownBy w' v.ownBlock → (v.ownBlock = some g ∨ g = H) → g < w'.heap.size →
      (∀ g j, v.ownBlock = some g → j < n * size → w'.cell? ⟨g, j, none⟩ = w.cell? ⟨g, j, none⟩) → K (a.put o.dst (.slice (some ⟨g, 0, none⟩) (n + m) cap)) w') :
    if Region.wanted o (yielded ops a.tmps) = true then Oper.wp P o a w K Q else E := by
  have hw : Region.wanted o (yielded ops a.tmps) = true := by simp [Region.wanted, hgd]
  rw [if_pos hw]
  obtain ⟨v', w', hrun, r1, r2, r3, r4, r5⟩ := run_append_full (ty := o.type) he base hown hr h1 h63 hbytes hbase
  obtain ⟨g, cap, rfl, hlt⟩ := r5 hm
  unfold Oper.wp execOp
  simp only [ho, resolve, invoke, builtin, Sem.run_bind, Sem.run_pure, Result.andThen_ok, List.map_toArray, List.map_cons, List.map_nil, hs, hx, hrun]
  refine h g cap w' r1 r2 ?_ hlt r4
  rcases r3 with r3 | r3
  · exact .inl r3.symm
  · right; simpa [Value.ownBlock, hH] using r3

theorem wpList_append_ints' {P : Program} {w : World} {ops : Array Oper} {rest : List Oper} {o : Oper} {a : Act} {Q : Exit → Act → World → Prop} (hgd : o.guard = none) (s x : Operand) (t e : TypeId)
    (ho : o.op = .call { callee := .builtin .append, args := #[s, x], argTypes := #[t, t] }) (he : Elem P t e (.int .i64 0) 1 8) (base : Nat)
    {v xv : Value} {xs ys : List Int} (hs : a.eval s = v) (hx : a.eval x = xv) (hown : w.ownsRow base e 1 v xs.length (xs.map (.int .i64))) (hr : Ints w xv ys)
    (hlen : xs.length + ys.length ≤ 17592186044416) (hbase : base ≤ w.heap.size)
    (h : ∀ v' w', w'.ownsRow base e 1 v' (xs ++ ys).length ((xs ++ ys).map (.int .i64)) → w.grownBy w' v.ownBlock → (v'.ownBlock = v.ownBlock ∨ v'.ownBlock = some w.heap.size) → wpList P ops Q rest (a.put o.dst v') w') : wpList P ops Q (o :: rest) a w :=
  wpList_append_row' hgd s x t e ho he base hs hx hown hr.1 (oneCell_int _) (by unfold maxLen; omega) (by omega) hbase
    (fun v' w' a1 a2 => h v' w' (by simpa using a1) a2)

/-- Empty, as '[]int{}' lays it. -/
theorem own_empty (w : World) (e : TypeId) : (w.alloc (.cells #[] e)).ownsRow w.heap.size e 1 (.slice (some ⟨w.heap.size, 0, none⟩) 0 0) 0 [] :=
  World.ownsRow_made _ _ 0 (Nat.le_refl _) (by decide) rfl

/-- One number, as '[]int{x}' lays it. -/
theorem own_one (w : World) (e : TypeId) (x : Int) : (w.alloc (.cells #[.int .i64 x] e)).ownsRow w.heap.size e 1 (.slice (some ⟨w.heap.size, 0, none⟩) 1 1) 1 [.int .i64 x] :=
  ⟨rfl, .inr ⟨w.heap.size, 1, _, rfl, Nat.le_refl _, heap_alloc_new w _, Nat.le_refl _, by decide, rfl, rfl⟩⟩

/-- In a region that draws its order: one new number. -/
theorem step_append_int {P : Program} {w : World} {ops : Array Oper} {o : Oper} {a : Act} {K : Act → World → Prop} {Q : Exit → Act → World → Prop} {E : Prop} (hgd : o.guard = none) (s x : Operand) (t e : TypeId)
    (ho : o.op = .call { callee := .builtin .append, args := #[s, x], argTypes := #[t, t] }) (he : Elem P t e (.int .i64 0) 1 8) (base : Nat)
    {v : Value} {xs : List Int} {y : Int} {B c : Nat} {fr : Nat × Nat} {et : TypeId} (hs : a.eval s = v) (hx : a.eval x = .slice (some ⟨B, 0, none⟩) 1 c) (hown : w.ownsRow base e 1 v xs.length (xs.map (.int .i64)))
    (hB : w.heap[B]? = some (.cells #[.int .i64 y] et fr)) (hc : 1 ≤ c ∧ c ≤ maxLen) (hlen : xs.length + 1 ≤ 17592186044416) (hbase : base ≤ w.heap.size) (H : Nat) (hH : w.heap.size = H)
    (h : ∀ g cap w', w'.ownsRow base e 1 (.slice (some ⟨g, 0, none⟩) (xs.length + 1) cap) (xs ++ [y]).length ((xs ++ [y]).map (.int .i64)) → w.grownBy w' v.ownBlock → (v.ownBlock = some g ∨ g = H) → g < w'.heap.size →
      (∀ g j, v.ownBlock = some g → j < xs.length → w'.cell? ⟨g, j, none⟩ = w.cell? ⟨g, j, none⟩) → K (a.put o.dst (.slice (some ⟨g, 0, none⟩) (xs.length + 1) cap)) w') :
    if Region.wanted o (yielded ops a.tmps) = true then Oper.wp P o a w K Q else E := by
  refine step_append_row hgd s x t e ho he base (news := [.int .i64 y]) (m := 1) hs hx hown ⟨rfl, by omega, _, c, rfl, hc.1, hc.2, by simp, fun ad ha => ?_⟩ (by simp [Value.oneCell']) (by unfold maxLen; omega) (by omega) hbase (by omega) H hH
    (fun g cap w' k1 k2 k3 k4 k5 => h g cap w' (by simpa using k1) k2 k3 k4 (fun g j e hj => k5 g j e (by omega)))
  cases ha
  exact World.news_of_block (cs := #[.int .i64 y]) hB

/-- The place of one new number, as 'append(s, x)' lays it. -/
theorem ints_one {w : World} {e : TypeId} {x : Int} (hx : In64 x) : Ints (w.alloc (.cells #[.int .i64 x] e)) (.slice (some ⟨w.heap.size, 0, none⟩) 1 1) [x] := by
  refine ⟨⟨rfl, by simp, _, 1, rfl, by simp, by simp [maxLen], by simp, ?_⟩, by simpa using hx⟩
  intro ad ha j u hj
  cases ha
  match j, hj with
  | 0, hj =>
    simp at hj
    subst hj
    rw [add_zero, World.cell?_alloc_at _ _ _ _ rfl]
    rfl
  | j + 1, hj => simp at hj

/-- A list of lists that is built of one, of two. -/
theorem lists_one {w : World} {e : TypeId} {v : Value} {xs : List Int} (hv : Ints w v xs) : Lists (w.alloc (.cells #[v] e)) (.slice (some ⟨w.heap.size, 0, none⟩) 1 1) [xs] := by
  refine ⟨[v], rfl, ⟨rfl, by simp, _, 1, rfl, by simp, by simp [maxLen], by simp, ?_⟩, ?_⟩
  · intro ad ha j u hj
    cases ha
    match j, hj with
    | 0, hj => simp at hj; subst hj; rw [add_zero, World.cell?_alloc_at _ _ _ _ rfl]; rfl
    | j + 1, hj => simp at hj
  · intro j hj
    obtain rfl : j = 0 := by simpa using hj
    exact hv.below ((Below.refl _ _).alloc (Nat.le_refl _) _)

theorem lists_two {w : World} {e : TypeId} {u v : Value} {xs ys : List Int} (hu : Ints w u xs) (hv : Ints w v ys) :
    Lists (w.alloc (.cells #[u, v] e)) (.slice (some ⟨w.heap.size, 0, none⟩) 2 2) [xs, ys] := by
  refine ⟨[u, v], rfl, ⟨rfl, by simp, _, 2, rfl, by simp, by simp [maxLen], by simp, ?_⟩, ?_⟩
  · intro ad ha j z hj
    cases ha
    match j, hj with
    | 0, hj => simp at hj; subst hj; rw [add_zero, World.cell?_alloc_at _ _ _ _ rfl]; rfl
    | 1, hj => simp at hj; subst hj; rw [add_mk, World.cell?_alloc_at _ _ _ _ rfl]; rfl
    | j + 2, hj => simp at hj
  · intro j hj
    match j, hj with
    | 0, _ => exact hu.below ((Below.refl _ _).alloc (Nat.le_refl _) _)
    | 1, _ => exact hv.below ((Below.refl _ _).alloc (Nat.le_refl _) _)
    | j + 2, hj => simp at hj; omega

/-- A block of the call's own whose first cells are xs. -/
def Blk (w : World) (B : Nat) (e : TypeId) (xs : List Value) : Prop :=
  ∃ cur : Array Value, w.heap[B]? = some (.cells cur e (0, 0)) ∧ ∀ j, j < xs.length → cur[j]? = xs[j]?

theorem Blk.lt {w : World} {B : Nat} {e : TypeId} {xs : List Value} (h : Blk w B e xs) : B < w.heap.size := by
  obtain ⟨cur, h, _⟩ := h
  exact (Array.getElem?_eq_some_iff.1 h).1
theorem Blk.cell {w : World} {B : Nat} {e : TypeId} {xs : List Value} (h : Blk w B e xs) {j : Nat} (hj : j < xs.length) : w.cell? ⟨B, j, none⟩ = xs[j]? := by
  obtain ⟨cur, h, h2⟩ := h
  simp only [World.cell?, h]
  simpa using h2 j hj
theorem Blk.free {w : World} {B : Nat} {e : TypeId} {xs : List Value} (h : Blk w B e xs) (j : Nat) : w.frozen? ⟨B, j, none⟩ = false := by
  obtain ⟨cur, h, h2⟩ := h
  simp [World.frozen?, h]
theorem Blk.below {w w' : World} {B B' : Nat} {e : TypeId} {xs : List Value} (h : Blk w B e xs) (hb : Below B' w w') (hB : B < B') : Blk w' B e xs := by
  obtain ⟨cur, h, h2⟩ := h
  exact ⟨cur, by rw [hb.block B hB]; exact h, h2⟩
theorem Blk.setCell {w : World} {B : Nat} {e : TypeId} {xs : List Value} (h : Blk w B e xs) {j : Nat} (u : Value) : Blk (w.setCell ⟨B, j, none⟩ u) B e (xs.set j u) := by
  obtain ⟨cur, h, h2⟩ := h
  refine ⟨cur.setIfInBounds j u, ?_, fun i hi => ?_⟩
  · simp [World.setCell, Array.getElem?_modify, h]
  · rw [List.length_set] at hi
    have := h2 i hi
    rw [Array.getElem?_setIfInBounds, List.getElem?_set]
    have hs : i < cur.size := by
      rcases Nat.lt_or_ge i cur.size with h | h
      · exact h
      · rw [Array.getElem?_eq_none h, List.getElem?_eq_getElem hi] at this; cases this
    by_cases e : j = i
    · subst e; simp [hs, hi]
    · simp [e, this]
theorem Blk.other {w : World} {B C : Nat} {e : TypeId} {xs : List Value} (h : Blk w B e xs) {j : Nat} (u : Value) (hne : B ≠ C) : Blk (w.setCell ⟨C, j, none⟩ u) B e xs := by
  obtain ⟨cur, h, h2⟩ := h
  exact ⟨cur, by rw [Below.heap_setCell _ _ _ _ (by simpa using hne)]; exact h, h2⟩
theorem Blk.new {w : World} {e : TypeId} (xs : List Value) {a : Array Value} (ha : a = xs.toArray) : Blk (w.alloc (.cells a e)) w.heap.size e xs :=
  ⟨a, heap_alloc_new w _, fun j hj => by subst ha; simp⟩
theorem Blk.of_own {w : World} {base : Nat} {e : TypeId} {g n cap : Nat} {xs : List Value} (h : w.ownsRow base e 1 (.slice (some ⟨g, 0, none⟩) n cap) n xs) : Blk w g e xs ∧ base ≤ g := by
  obtain ⟨hl, h1⟩ := h
  rcases h1 with ⟨h1, _⟩ | ⟨g', cap', cur, he, hg, hh, hnc, hcm, hcs, htake⟩
  · cases h1
  · cases he
    refine ⟨⟨cur, hh, fun j hj => ?_⟩, hg⟩
    rw [← htake] at hj ⊢
    rw [List.length_take] at hj
    rw [List.getElem?_take, if_pos (by omega), Array.getElem?_toList]
theorem Blk.row {w : World} {B : Nat} {e : TypeId} {xs : List Value} (h : Blk w B e xs) {n cap size : Nat} (hl : xs.length = n * size) (hn : n ≤ cap) (hc : cap ≤ maxLen) (hb : n ≤ 17592186044416) : Row w (.slice (some ⟨B, 0, none⟩) n cap) n size xs := by
  refine ⟨hl, hb, _, cap, rfl, hn, hc, by simp, fun ad ha j u hj => ?_⟩
  cases ha
  have hjl : j < xs.length := (List.getElem?_eq_some_iff.1 hj).1
  rw [add_mk, Nat.zero_add, h.cell hjl, hj]

/-- The same, of n numbers f 0, f 1, .. -/
def nums (n : Nat) (f : Nat → Int) : List Value := (List.range n).map fun t => .int .i64 (f t)
theorem nums_len (n : Nat) (f : Nat → Int) : (nums n f).length = n := by simp [nums]
theorem nums_at {n : Nat} {f : Nat → Int} {j : Nat} (h : j < n) : (nums n f)[j]? = some (.int .i64 (f j)) := by simp [nums, h]
theorem nums_set (n : Nat) (f g : Nat → Int) (j : Nat) (x : Int) (h1 : g j = x) (h2 : ∀ t, t ≠ j → g t = f t) : (nums n f).set j (.int .i64 x) = nums n g := by
  apply List.ext_getElem?
  intro i
  rw [List.getElem?_set]
  by_cases hi : i < n
  · by_cases e : j = i
    · subst e; simp [nums, hi, h1]
    · simp [nums, hi, e, h2 i (fun h => e h.symm)]
  · simp [nums, hi]; omega
theorem nums_eq (n : Nat) (f : Nat → Int) : nums n f = ((List.range n).map f).map (.int .i64) := by simp [nums, Function.comp_def]
theorem Blk.num {w : World} {B : Nat} {e : TypeId} {n : Nat} {f : Nat → Int} (h : Blk w B e (nums n f)) {j : Nat} (hj : j < n) : w.cell? ⟨B, j, none⟩ = some (.int .i64 (f j)) := by
  rw [h.cell (by rw [nums_len]; exact hj), nums_at hj]
theorem Blk.ints {w : World} {B : Nat} {e : TypeId} {n cap : Nat} {f : Nat → Int} (h : Blk w B e (nums n f)) (hn : n ≤ cap) (hc : cap ≤ maxLen) (hb : n ≤ 17592186044416) (hf : ∀ j, j < n → In64 (f j)) :
    Ints w (.slice (some ⟨B, 0, none⟩) n cap) ((List.range n).map f) := by
  refine ⟨?_, ?_⟩
  · rw [← nums_eq]
    have := h.row (n := n) (cap := cap) (size := 1) (by rw [nums_len]; omega) hn hc hb
    simpa using this
  · intro x hx
    obtain ⟨j, hj, rfl⟩ := List.mem_map.1 hx
    exact hf j (by simpa using hj)

/-- A block of the call's own while another slice of its own grows. -/
theorem Blk.grown {w w' : World} {B : Nat} {e : TypeId} {xs : List Value} {r : Option Nat} (h : Blk w B e xs) (hg : w.grownBy w' r) (hne : r ≠ some B) : Blk w' B e xs := by
  obtain ⟨cur, h1, h2⟩ := h
  exact ⟨cur, by rw [hg.block B (Array.getElem?_eq_some_iff.1 h1).1 (fun e => hne e.symm)]; exact h1, h2⟩
theorem ownsRow_setCell_other {w : World} {base : Nat} {e : TypeId} {size : Nat} {v : Value} {n : Nat} {xs : List Value} (h : w.ownsRow base e size v n xs) {a : Addr} (ha : v.ownBlock ≠ some a.block) (u : Value) : (w.setCell a u).ownsRow base e size v n xs := by
  obtain ⟨h1, h2⟩ := h
  refine ⟨h1, ?_⟩
  rcases h2 with h2 | ⟨g, cap, cur, rfl, hg, hh, r⟩
  · exact Or.inl h2
  · exact Or.inr ⟨g, cap, cur, rfl, hg, by rw [Below.heap_setCell _ _ _ _ (fun e => ha (by rw [← e]; rfl))]; exact hh, r⟩
theorem own_below {w w' : World} {base B : Nat} {e : TypeId} {size : Nat} {v : Value} {n : Nat} {xs : List Value} (h : w.ownsRow base e size v n xs) (hb : Below B w w') (hB : ∀ k, v.ownBlock = some k → k < B) : w'.ownsRow base e size v n xs := by
  obtain ⟨h1, h2⟩ := h
  refine ⟨h1, ?_⟩
  rcases h2 with h2 | ⟨g, cap, cur, rfl, hg, hh, r⟩
  · exact Or.inl h2
  · exact Or.inr ⟨g, cap, cur, rfl, hg, by rw [hb.block g (hB g rfl)]; exact hh, r⟩
theorem Blk.fewer {w : World} {B : Nat} {e : TypeId} {n m : Nat} {f : Nat → Int} (h : Blk w B e (nums n f)) (hm : m ≤ n) : Blk w B e (nums m f) := by
  obtain ⟨cur, h1, h2⟩ := h
  refine ⟨cur, h1, fun j hj => ?_⟩
  rw [nums_len] at hj
  rw [h2 j (by rw [nums_len]; omega), nums_at (by omega), nums_at hj]
theorem own_form {w : World} {base : Nat} {e : TypeId} {v : Value} {n : Nat} {xs : List Value} (h : w.ownsRow base e 1 v n xs) :
    (v = .slice none 0 0 ∧ n = 0 ∧ xs = []) ∨ ∃ g cap, v = .slice (some ⟨g, 0, none⟩) n cap ∧ base ≤ g ∧ n ≤ cap ∧ cap ≤ maxLen ∧ Blk w g e xs := by
  obtain ⟨hl, h1⟩ := h
  rcases h1 with ⟨rfl, rfl⟩ | ⟨g, cap, cur, rfl, hg, hh, hnc, hcm, hcs, htake⟩
  · exact .inl ⟨rfl, rfl, List.eq_nil_of_length_eq_zero (by simpa using hl)⟩
  · exact .inr ⟨g, cap, rfl, hg, hnc, hcm, (Blk.of_own (w := w) (base := base) ⟨hl, .inr ⟨g, cap, cur, rfl, hg, hh, hnc, hcm, hcs, htake⟩⟩).1⟩
theorem ints_nums (xs : List Int) : xs.map (Value.int .i64) = nums xs.length (fun t => xs.getD t 0) := by
  apply List.ext_getElem?
  intro i
  by_cases h : i < xs.length <;> simp [nums, h]

def upd (f : Nat → Int) (j : Nat) (x : Int) (t : Nat) : Int := if t = j then x else f t
theorem upd_same (f : Nat → Int) (j : Nat) (x : Int) : upd f j x j = x := if_pos rfl
theorem upd_other (f : Nat → Int) {j t : Nat} (x : Int) (h : t ≠ j) : upd f j x t = f t := if_neg h
theorem Blk.put {w : World} {B : Nat} {e : TypeId} {n : Nat} {f : Nat → Int} (h : Blk w B e (nums n f)) (j : Nat) (x : Int) : Blk (w.setCell ⟨B, j, none⟩ (.int .i64 x)) B e (nums n (upd f j x)) := by
  have := h.setCell (j := j) (.int .i64 x)
  rw [nums_set n f (upd f j x) j x (upd_same f j x) (fun t ht => upd_other f x ht)] at this
  exact this
theorem Blk.drew {w : World} {B : Nat} {e : TypeId} {xs : List Value} (h : Blk w B e xs) : Blk w.drew B e xs := h.below (Below.refl (B + 1) _).drew (by omega)
theorem Blk.congr {w : World} {B : Nat} {e : TypeId} {n : Nat} {f g : Nat → Int} (h : Blk w B e (nums n f)) (hg : ∀ t, t < n → f t = g t) : Blk w B e (nums n g) := by
  have : nums n f = nums n g := List.map_congr_left fun t ht => by rw [hg t (by simpa using ht)]
  rw [← this]; exact h

theorem nums_const (n : Nat) (x : Int) : nums n (fun _ => x) = List.replicate n (.int .i64 x) := by
  apply List.ext_getElem?
  intro i
  by_cases h : i < n <;> simp [nums, h]

/-- make([]int, n). -/
theorem wpList_make_ints {P : Program} {w : World} {ops : Array Oper} {rest : List Oper} {o : Oper} {a : Act} {Q : Exit → Act → World → Prop}
    (hg : o.guard = none) (l c : Operand) (t e : TypeId) (hop : o.op = Op.makeSlice t l c) (he : Elem P t e (.int .i64 0) 1 8)
    (n : Nat) {L C : Int} (hl : a.eval l = .int .i64 L) (hc : a.eval c = .int .i64 C) (hL : L = n) (hC : C = n) (hn : n ≤ 17592186044416)
    (hK : ∀ w', Blk w' w.heap.size e (nums n (fun _ => 0)) → Below w.heap.size w w' → wpList P ops Q rest (a.put o.dst (.slice (some ⟨w.heap.size, 0, none⟩) n n)) w') :
    wpList P ops Q (o :: rest) a w := by
  obtain ⟨ht, ⟨i, hi, hz, hsz, hby⟩, hzc, hp⟩ := he
  refine wpList_make_full w hg l c t hop w.heap.size e i (.int .i64 0) 1 ht hi hz hsz .i64 .i64 L C n hl hc hL hC (by rw [hby]; omega) (by unfold maxLen; omega) (Nat.le_refl _) fun w' h1 h2 => ?_
  refine hK w' ?_ ((Below.refl _ _).grown h2 (Nat.le_refl _) (by simp))
  have := (Blk.of_own h1).1
  rw [show (Value.int .i64 0).cells = #[.int .i64 0] from rfl, toList_madeCells_one, Nat.mul_one] at this
  rw [nums_const]; exact this

end Go.Proofs.Ytefpmjnimnmniaa
