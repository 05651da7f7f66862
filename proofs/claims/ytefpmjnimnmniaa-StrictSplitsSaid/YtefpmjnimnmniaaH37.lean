/- What the claim needs, part 37. -/
import Derived.Test.YtefpmjnimnmniaaH33
import Derived.Test.YtefpmjnimnmniaaH24
import Derived.ArgAppend
import Derived.Test.YtefpmjnimnmniaaH27
import Derived.Test.YtefpmjnimnmniaaH26
import Derived.Test.YtefpmjnimnmniaaH23
import Derived.Test.YtefpmjnimnmniaaH20
import Derived.Test.YtefpmjnimnmniaaH22
import Derived.Test.YtefpmjnimnmniaaH13
import Derived.Test.YtefpmjnimnmniaaH4
import Derived.Test.YtefpmjnimnmniaaH25
import Derived.Test.YtefpmjnimnmniaaH36
namespace Go.Proofs.Ytefpmjnimnmniaa
set_option linter.unusedSimpArgs false
set_option linter.unusedVariables false
open Go.RowKit
theorem fault_ok {f : FuncD} : FaultR f 0 0 ↔ (∀ d, d < f.blocks.length → Way (toB f) (-1) d) ∧ (∀ (d : Nat) (y : BlockD), f.blocks[d]? = some y → y.phis.all (phiFits (natI (predN f f.blocks.length 0 d))) = true) ∧ ∀ v ∈ uxF f, UseOk f v := by
  unfold FaultR
  constructor
  · rintro (⟨c, -, -, -, -, h⟩ | ⟨h1, ⟨c, x, -, -, -, -, h⟩ | ⟨h2, ⟨i, u, -, -, -, -, h⟩ | ⟨h3, -, -⟩⟩⟩)
    · cases h
    · cases h
    · cases h
    · exact ⟨h1, h2, h3⟩
  · rintro ⟨h1, h2, h3⟩
    exact .inr ⟨h1, .inr ⟨h2, .inr ⟨h3, rfl, rfl⟩⟩⟩
theorem mem_set_or {α : Type} {l : List α} {k : Nat} {t v n : α} (h : v ∈ l) (hk : l[k]? = some t) : v = t ∨ v ∈ l.set k n := by
  obtain ⟨j, hj⟩ := List.getElem?_of_mem h
  by_cases e : k = j
  · subst e
    rw [hk] at hj
    cases hj; exact .inl rfl
  · refine .inr (List.mem_of_getElem? (i := j) ?_)
    rw [List.getElem?_set, if_neg e, hj]
theorem toB_none {f : FuncD} {i : Nat} (h : f.blocks.length ≤ i) : toB f i = [] := by
  unfold toB
  rw [List.getD_eq_getElem?_getD, List.getElem?_eq_none h]; rfl
theorem to_lt {f : FuncD} (hf : formB f = true) {i v : Nat} (h : v ∈ toB f i) : v < f.blocks.length ∧ 1 ≤ v ∧ i < f.blocks.length := by
  have hi : i < f.blocks.length := Classical.byContradiction fun h2 => by rw [toB_none (by omega)] at h; cases h
  obtain ⟨y, hy⟩ : ∃ y, f.blocks[i]? = some y := ⟨_, List.getElem?_eq_getElem hi⟩
  rw [toB_at hy, List.mem_map] at h
  obtain ⟨q, hq, rfl⟩ := h
  have := formB_to hf hy q hq
  exact ⟨by omega, by omega, hi⟩
section
variable {f : FuncD} {b k t : Nat} {x : BlockD} {still : Bool}
theorem toB_split {i : Nat} (h : i < f.blocks.length) (hne : i ≠ b) : toB (splitAt f b k t still) i = toB f i := by
  obtain ⟨y, hy⟩ : ∃ y, f.blocks[i]? = some y := ⟨_, List.getElem?_eq_getElem h⟩
  have hg := split_get f b k t still i
  rw [if_pos h, hy, Option.map_some] at hg
  rw [toB_at hg, toB_at hy]
  split
  · rfl
  · rfl
theorem toB_split_b (hb : f.blocks[b]? = some x) : toB (splitAt f b k t still) b = (toB f b).set k f.blocks.length := by
  have hbl := (List.getElem?_eq_some_iff.1 hb).1
  have hg := split_get f b k t still b
  rw [if_pos hbl, hb, Option.map_some] at hg
  rw [toB_at hg, toB_at hb]
  have : (splitTo k f.blocks.length x).term.to.map Int.toNat = (x.term.to.map Int.toNat).set k f.blocks.length := by
    unfold splitTo
    simp only [List.map_set]
    congr 1
  simp only [if_true]
  split
  · exact this
  · exact this
theorem toB_split_n : toB (splitAt f b k t still) f.blocks.length = [t] := by
  have hg := split_get f b k t still f.blocks.length
  rw [if_neg (by omega), if_pos rfl] at hg
  rw [toB_at hg]; rfl
theorem toB_split_up {i : Nat} (h : f.blocks.length < i) : toB (splitAt f b k t still) i = [] := toB_none (by rw [split_len]; omega)
theorem way_up (hb : f.blocks[b]? = some x) (hk : x.term.to[k]? = some (t : Int)) {a : Int} (ha : a ≠ f.blocks.length) {v : Nat} (h : Way (toB f) a v) : Way (toB (splitAt f b k t still)) a v := by
  have hkk : (toB f b)[k]? = some t := by rw [toB_at hb, List.getElem?_map, hk]; rfl
  induction h with
  | zero h => exact .zero h
  | @step c v hw hv hne ih =>
    have hc : c < f.blocks.length := Classical.byContradiction fun h => by rw [toB_none (by omega)] at hv; cases hv
    by_cases e : c = b
    · subst e
      rcases mem_set_or (n := f.blocks.length) hv hkk with e | h
      · subst e
        have h1 : Way (toB (splitAt f c k v still)) a f.blocks.length := .step ih (by rw [toB_split_b hb]; exact List.mem_of_getElem? (i := k) (by rw [List.getElem?_set, if_pos rfl, if_pos (List.getElem?_eq_some_iff.1 hkk).1])) (fun e => ha e.symm)
        exact .step h1 (by rw [toB_split_n]; simp) hne
      · exact .step ih (by rw [toB_split_b hb]; exact h) hne
    · exact .step ih (by rw [toB_split hc e]; exact hv) hne
theorem way_down (hf : formB f = true) (hb : f.blocks[b]? = some x) (hk : x.term.to[k]? = some (t : Int)) (ht : t < f.blocks.length) {a : Int} {v : Nat} (h : Way (toB (splitAt f b k t still)) a v) : (v ≠ f.blocks.length → Way (toB f) a v) ∧ (v = f.blocks.length → Way (toB f) a b) := by
  have hkk : (toB f b)[k]? = some t := by rw [toB_at hb, List.getElem?_map, hk]; rfl
  have hbl := (List.getElem?_eq_some_iff.1 hb).1
  induction h with
  | zero h => exact ⟨fun _ => .zero h, fun e => by omega⟩
  | @step c v hw hv hne ih =>
    by_cases hc : c = f.blocks.length
    · subst hc
      rw [toB_split_n, List.mem_singleton] at hv
      subst hv
      exact ⟨fun _ => .step (ih.2 rfl) (List.mem_of_getElem? hkk) hne, fun e => by omega⟩
    · have h1 := ih.1 hc
      by_cases hcl : c < f.blocks.length
      · by_cases e : c = b
        · subst e
          rw [toB_split_b hb] at hv
          refine ⟨fun hvn => ?_, fun _ => h1⟩
          rcases List.mem_or_eq_of_mem_set hv with hv | hv
          · exact .step h1 hv hne
          · exact absurd hv hvn
        · rw [toB_split hcl e] at hv
          refine ⟨fun _ => .step h1 hv hne, fun e2 => ?_⟩
          subst e2
          have := (to_lt hf hv).1
          omega
      · rw [toB_split_up (by omega)] at hv
        cases hv
theorem over_split (hf : formB f = true) (hb : f.blocks[b]? = some x) (hk : x.term.to[k]? = some (t : Int)) (ht : t < f.blocks.length) {a v : Nat} (ha : a < f.blocks.length) (h : OverP f a v) : OverP (splitAt f b k t still) a v := by
  obtain ⟨h1, h2, h3⟩ := h
  have h6 : ∀ u, Way (toB f) (-1) u → u ≠ f.blocks.length := fun u hu => by
    cases hu with
    | zero _ => omega
    | step _ h5 _ => have := (to_lt hf h5).1; omega
  exact ⟨way_up hb hk (by omega) h1, way_up hb hk (by omega) h2, fun h4 => h3 ((way_down hf hb hk ht h4).1 (h6 _ h2))⟩
theorem over_split_n (hf : formB f = true) (hb : f.blocks[b]? = some x) (hk : x.term.to[k]? = some (t : Int)) (ht : t < f.blocks.length) {a : Nat} (ha : a < f.blocks.length) (h : OverP f a b) : OverP (splitAt f b k t still) a f.blocks.length := by
  obtain ⟨h1, h2, h3⟩ := h
  have hkk : (toB f b)[k]? = some t := by rw [toB_at hb, List.getElem?_map, hk]; rfl
  exact ⟨way_up hb hk (by omega) h1, .step (way_up hb hk (by omega) h2) (by rw [toB_split_b hb]; exact List.mem_of_getElem? (i := k) (by rw [List.getElem?_set, if_pos rfl, if_pos (List.getElem?_eq_some_iff.1 hkk).1])) (by omega), fun h4 => h3 ((way_down hf hb hk ht h4).2 rfl)⟩
theorem ent_in {c : Nat} {n : Int} (y : BlockD) : entB c (splitIn b n still y) = entB c y := by
  unfold entB splitIn phiN
  simp only [List.length_map, List.take_length, List.map_map]
  congr 1
  rw [List.take_of_length_le (by simp), List.map_map]
  apply List.map_congr_left
  intro p _
  simp [splitPhi_id]
theorem blk_split {c : Nat} (hc : c ≤ f.blocks.length) : blkN (splitAt f b k t still) c = blkN f c := by
  induction c with
  | zero => simp [blkN]
  | succ c ih =>
    obtain ⟨y, hy⟩ : ∃ y, f.blocks[c]? = some y := ⟨_, List.getElem?_eq_getElem (by omega)⟩
    have hg := split_get f b k t still c
    rw [if_pos (by omega), hy, Option.map_some] at hg
    rw [blkN_succ hy, blkN_succ hg, ih (by omega)]
    congr 1
    split
    · rw [ent_in]; split <;> rfl
    · split <;> rfl
theorem ent_split : entF (splitAt f b k t still) = entF f := by
  have hg := split_get f b k t still f.blocks.length
  rw [if_neg (by omega), if_pos rfl] at hg
  unfold entF
  rw [split_len, blkN_succ hg, blk_split (Nat.le_refl _)]
  have : entB f.blocks.length (jumpB t) = [] := rfl
  rw [this, List.append_nil]; rfl
theorem zip_set {α β : Type} : ∀ {vs : List α} {ss : List β} {i : Nat} {n : β} {p : α × β}, p ∈ vs.zip (ss.set i n) → p ∈ vs.zip ss ∨ (p.2 = n ∧ ∃ s, ss[i]? = some s ∧ (p.1, s) ∈ vs.zip ss)
  | [], ss, i, n, p, h => by simp at h
  | v :: vs, [], i, n, p, h => by simp at h
  | v :: vs, s :: ss, 0, n, p, h => by
    rw [List.set_cons_zero, List.zip_cons_cons, List.mem_cons] at h
    rcases h with rfl | h
    · exact .inr ⟨rfl, s, rfl, by simp⟩
    · exact .inl (by simp [h])
  | v :: vs, s :: ss, i + 1, n, p, h => by
    rw [List.set_cons_succ, List.zip_cons_cons, List.mem_cons] at h
    rcases h with rfl | h
    · exact .inl (by simp)
    · rcases zip_set h with h | ⟨h1, s', h2, h3⟩
      · exact .inl (by rw [List.zip_cons_cons]; exact List.mem_cons_of_mem _ h)
      · exact .inr ⟨h1, s', by simpa using h2, by rw [List.zip_cons_cons]; exact List.mem_cons_of_mem _ h3⟩
theorem uxP_split {i : Nat} {n : Int} {p : PhiD} (hl : p.src.length = p.vals.length) {u : UseD} (hu : u ∈ uxP i (splitPhi b n still p)) : u ∈ uxP i p ∨ ∃ u0 ∈ uxP i p, u.id = u0.id ∧ u.blk = u0.blk ∧ u.pos = -1 ∧ u0.pos = -1 ∧ u.src = n ∧ u0.src = b := by
  unfold splitPhi at hu
  split at hu
  · rename_i hb
    have hib : p.src.idxOf (b : Int) < p.src.length := List.idxOf_lt_length_of_mem hb
    have hat : p.src[p.src.idxOf (b : Int)]? = some (b : Int) := by rw [List.getElem?_eq_getElem hib, List.getElem_idxOf]
    split at hu
    · unfold uxP at hu ⊢
      simp only at hu
      rw [List.zip_append hl.symm, List.map_append, List.mem_append] at hu
      rcases hu with hu | hu
      · exact .inl hu
      · simp only [List.zip_cons_cons, List.zip_nil_left, List.map_cons, List.map_nil, List.mem_singleton] at hu
        subst hu
        refine .inr ⟨⟨p.vals.getD (p.src.idxOf (b : Int)) 0, p.typ, i, -1, b⟩, ?_, rfl, rfl, rfl, rfl, rfl, rfl⟩
        rw [List.mem_map]
        refine ⟨(p.vals.getD (p.src.idxOf (b : Int)) 0, (b : Int)), ?_, rfl⟩
        refine List.mem_of_getElem? (i := p.src.idxOf (b : Int)) ?_
        rw [List.getElem?_zip_eq_some]
        exact ⟨by rw [List.getD_eq_getElem?_getD, List.getElem?_eq_getElem (by omega)]; rfl, hat⟩
    · unfold uxP at hu ⊢
      simp only at hu
      rw [List.mem_map] at hu
      obtain ⟨vs, hvs, rfl⟩ := hu
      rcases zip_set hvs with h | ⟨h1, s, h2, h3⟩
      · exact .inl (List.mem_map.2 ⟨vs, h, rfl⟩)
      · rw [hat] at h2
        cases h2
        exact .inr ⟨_, List.mem_map.2 ⟨_, h3, rfl⟩, rfl, rfl, rfl, rfl, h1, rfl⟩
  · exact .inl hu
theorem uxB_split (h : ∀ y ∈ f.blocks, ∀ p ∈ y.phis, p.src.length = p.vals.length) {u : UseD} (hu : u ∈ uxF (splitAt f b k t still)) : u ∈ uxF f ∨ ∃ u0 ∈ uxF f, u.id = u0.id ∧ u.blk = u0.blk ∧ u.pos = -1 ∧ u0.pos = -1 ∧ u.src = f.blocks.length ∧ u0.src = b := by
  unfold uxF at hu ⊢
  rw [List.mem_flatMap] at hu
  obtain ⟨⟨y', i⟩, hy', hu⟩ := hu
  rw [List.mem_zipIdx_iff_getElem?] at hy'
  simp only at hy'
  rw [split_get] at hy'
  split at hy'
  · rename_i hi
    rw [Option.map_eq_some_iff] at hy'
    obtain ⟨y, hy, rfl⟩ := hy'
    have hin : ∀ w ∈ uxB (y, i), w ∈ f.blocks.zipIdx.flatMap uxB := fun w hw => List.mem_flatMap.2 ⟨(y, i), by rw [List.mem_zipIdx_iff_getElem?]; exact hy, hw⟩
    have q5 : (if i = b then splitTo k f.blocks.length y else y).phis = y.phis ∧ (if i = b then splitTo k f.blocks.length y else y).code = y.code ∧ (if i = b then splitTo k f.blocks.length y else y).term.op = y.term.op ∧ (if i = b then splitTo k f.blocks.length y else y).term.val = y.term.val := by
      split
      · exact ⟨rfl, rfl, rfl, rfl⟩
      · exact ⟨rfl, rfl, rfl, rfl⟩
    obtain ⟨e1, e2, e5, e6⟩ := q5
    generalize (if i = b then splitTo k f.blocks.length y else y) = z at *
    have e3 : ∀ ps, uxT i ⟨ps, y.code, z.term⟩ = uxT i y := fun ps => by unfold uxT; simp only; rw [e5, e6]
    have e4 : uxT i z = uxT i y := by unfold uxT; rw [e5, e6, e2]
    split at hu
    · unfold uxB splitIn at hu
      simp only at hu
      rw [e2, e3, e1] at hu
      simp only [List.mem_append] at hu
      rcases hu with (hu | hu) | hu
      · rw [List.mem_flatMap] at hu
        obtain ⟨p', hp', hu⟩ := hu
        rw [List.mem_map] at hp'
        obtain ⟨p, hp, rfl⟩ := hp'
        have hmem : ∀ w ∈ uxP i p, w ∈ uxB (y, i) := fun w hw => by
          unfold uxB
          simp only [List.mem_append]
          exact .inl (.inl (List.mem_flatMap.2 ⟨p, hp, hw⟩))
        rcases uxP_split (h y (List.mem_of_getElem? hy) p hp) hu with hu | ⟨u0, hu0, r⟩
        · exact .inl (hin _ (hmem _ hu))
        · exact .inr ⟨u0, hin _ (hmem _ hu0), r⟩
      · exact .inl (hin _ (by unfold uxB; simp only [List.mem_append]; exact .inl (.inr hu)))
      · exact .inl (hin _ (by unfold uxB; simp only [List.mem_append]; exact .inr hu))
    · refine .inl (hin _ ?_)
      unfold uxB at hu ⊢
      simp only at hu ⊢
      rw [e1, e2, e4] at hu
      exact hu
  · split at hy'
    · cases hy'
      simp [uxB, jumpB, uxT] at hu
    · cases hy'
theorem pred_split (hf : formB f = true) (hb : f.blocks[b]? = some x) (hk : x.term.to[k]? = some (t : Int)) {d : Nat} (hd : d < f.blocks.length) (hdt : d ≠ t) : predN (splitAt f b k t still) (f.blocks.length + 1) 0 d = predN f f.blocks.length 0 d := by
  have hkk : (toB f b)[k]? = some t := by rw [toB_at hb, List.getElem?_map, hk]; rfl
  rw [predN_zero, predN_zero, List.range_succ, List.filter_append]
  have h1 : (List.filter (fun c => (toB (splitAt f b k t still) c).contains d) [f.blocks.length]) = [] := by
    simp [toB_split_n, hdt]
  rw [h1, List.append_nil]
  apply List.filter_congr
  intro c hc
  rw [List.mem_range] at hc
  by_cases e : c = b
  · subst e
    rw [toB_split_b hb, Bool.eq_iff_iff, List.contains_iff_mem, List.contains_iff_mem]
    constructor
    · intro h
      rcases List.mem_or_eq_of_mem_set h with h | h
      · exact h
      · omega
    · intro h
      rcases mem_set_or (n := f.blocks.length) h hkk with e2 | h
      · exact absurd e2 hdt
      · exact h
  · rw [toB_split hc e]
theorem pred_split_t (hb : f.blocks[b]? = some x) (hk : x.term.to[k]? = some (t : Int)) (ht : t < f.blocks.length) (hs : still = ((toB f b).set k f.blocks.length).contains t) :
    predN (splitAt f b k t still) (f.blocks.length + 1) 0 t = (if still then predN f f.blocks.length 0 t else (predN f f.blocks.length 0 t).filter (fun c => c != b)) ++ [f.blocks.length] := by
  have hkk : (toB f b)[k]? = some t := by rw [toB_at hb, List.getElem?_map, hk]; rfl
  rw [predN_zero, predN_zero, List.range_succ, List.filter_append]
  have h1 : (List.filter (fun c => (toB (splitAt f b k t still) c).contains t) [f.blocks.length]) = [f.blocks.length] := by
    simp [toB_split_n]
  rw [h1]
  congr 1
  cases hst : still
  · rw [if_neg (by simp), List.filter_filter]
    apply List.filter_congr
    intro c hc
    rw [List.mem_range] at hc
    by_cases e : c = b
    · subst e
      rw [toB_split_b hb]
      simp only [bne_self_eq_false, Bool.false_and]
      rw [← hs, hst]
    · rw [toB_split hc e]
      simp [e]
  · rw [if_pos rfl]
    apply List.filter_congr
    intro c hc
    rw [List.mem_range] at hc
    by_cases e : c = b
    · subst e
      rw [toB_split_b hb, ← hs, hst]
      have : t ∈ toB f c := List.mem_of_getElem? hkk
      simp [this]
    · rw [toB_split hc e]
theorem fits_split (hb : f.blocks[b]? = some x) (hk : x.term.to[k]? = some (t : Int)) (hs : still = ((toB f b).set k f.blocks.length).contains t) {p : PhiD} (h : phiFits (natI (predN f f.blocks.length 0 t)) p = true) :
    phiFits (natI ((if still then predN f f.blocks.length 0 t else (predN f f.blocks.length 0 t).filter (fun c => c != b)) ++ [f.blocks.length])) (splitPhi b f.blocks.length still p) = true := by
  have hkk : (toB f b)[k]? = some t := by rw [toB_at hb, List.getElem?_map, hk]; rfl
  have hbl := (List.getElem?_eq_some_iff.1 hb).1
  have hin : b ∈ predN f f.blocks.length 0 t := by
    rw [predN_zero, List.mem_filter, List.mem_range]
    exact ⟨hbl, by have : t ∈ toB f b := List.mem_of_getElem? hkk; simpa using this⟩
  have hnd : (predN f f.blocks.length 0 t).Nodup := by rw [predN_zero]; exact List.nodup_range.filter _
  unfold phiFits at h ⊢
  simp only [Bool.and_eq_true, decide_eq_true_eq, List.all_eq_true, natI, List.length_map, List.mem_map, List.contains_iff_mem] at h ⊢
  obtain ⟨h1, h2⟩ := h
  have hsb : (b : Int) ∈ p.src := h2 _ ⟨b, hin, rfl⟩
  have hib : p.src.idxOf (b : Int) < p.src.length := List.idxOf_lt_length_of_mem hsb
  have hat : p.src[p.src.idxOf (b : Int)]? = some (b : Int) := by rw [List.getElem?_eq_getElem hib, List.getElem_idxOf]
  unfold splitPhi
  rw [if_pos hsb]
  cases still
  · simp only [Bool.false_eq_true, if_false, List.length_set, List.length_append, List.length_singleton]
    constructor
    · have h3 : (predN f f.blocks.length 0 t).filter (fun c => c != b) = (predN f f.blocks.length 0 t).erase b := (List.Nodup.erase_eq_filter hnd b).symm
      rw [h3, List.length_erase_of_mem hin]
      have := List.length_pos_of_mem hin
      omega
    · rintro _ ⟨c, hc, rfl⟩
      rw [List.mem_append] at hc
      rcases hc with hc | hc
      · rw [List.mem_filter] at hc
        rcases mem_set_or (n := (f.blocks.length : Int)) (h2 _ ⟨c, hc.1, rfl⟩) hat with e | h
        · have := hc.2; simp at this; omega
        · exact h
      · rw [List.mem_singleton] at hc
        subst hc
        exact List.mem_of_getElem? (i := p.src.idxOf (b : Int)) (by rw [List.getElem?_set, if_pos rfl, if_pos hib])
  · simp only [if_true, List.length_append, List.length_singleton]
    refine ⟨by omega, ?_⟩
    rintro _ ⟨c, hc, rfl⟩
    rw [List.mem_append] at hc ⊢
    rcases hc with hc | hc
    · exact .inl (h2 _ ⟨c, hc, rfl⟩)
    · rw [List.mem_singleton] at hc
      subst hc
      exact .inr (by simp)
theorem useOk_up (hf : formB f = true) (hb : f.blocks[b]? = some x) (hk : x.term.to[k]? = some (t : Int)) (ht : t < f.blocks.length) (hn : 1 ≤ f.blocks.length) {u : UseD} (h : UseOk f u) : UseOk (splitAt f b k t still) u := by
  obtain ⟨d, q, h1, h2⟩ := h
  obtain ⟨r1, r2⟩ := ent_range hn (List.mem_of_find?_eq_some h1)
  simp only at r1 r2
  refine ⟨d, q, by rw [ent_split]; exact h1, ?_⟩
  rcases h2 with ⟨h2, h3⟩ | ⟨h2, h3⟩
  · exact .inl ⟨h2, over_split hf hb hk ht (by omega) h3⟩
  · refine .inr ⟨h2, ?_⟩
    rcases h3 with h3 | ⟨h3, h4⟩
    · exact .inl h3
    · exact .inr ⟨h3, over_split hf hb hk ht (by omega) h4⟩
theorem strict_split (hc : checkF f = 0) (h : FaultR f 0 0) (hb : f.blocks[b]? = some x) (hk : x.term.to[k]? = some (t : Int)) (hs : still = ((toB f b).set k f.blocks.length).contains t) : FaultR (splitAt f b k t still) 0 0 := by
  have hf := (check_fine hc).1
  have hbl := (List.getElem?_eq_some_iff.1 hb).1
  have hkk : (toB f b)[k]? = some t := by rw [toB_at hb, List.getElem?_map, hk]; rfl
  have ht := (to_lt hf (List.mem_of_getElem? hkk)).1
  obtain ⟨h1, h2, h3⟩ := fault_ok.1 h
  rw [fault_ok, split_len]
  refine ⟨fun d hd => ?_, fun d y' hy' => ?_, fun u hu => ?_⟩
  · by_cases e : d = f.blocks.length
    · subst e
      exact .step (way_up hb hk (by omega) (h1 b hbl)) (by rw [toB_split_b hb]; exact List.mem_of_getElem? (i := k) (by rw [List.getElem?_set, if_pos rfl, if_pos (List.getElem?_eq_some_iff.1 hkk).1])) (by omega)
    · exact way_up hb hk (by omega) (h1 d (by omega))
  · rw [split_get] at hy'
    split at hy'
    · rename_i hd
      rw [Option.map_eq_some_iff] at hy'
      obtain ⟨y, hy, rfl⟩ := hy'
      have h4 := h2 d y hy
      have e1 : (if d = b then splitTo k f.blocks.length y else y).phis = y.phis := by split <;> rfl
      generalize (if d = b then splitTo k f.blocks.length y else y) = z at *
      split
      · rename_i e
        subst e
        rw [pred_split_t hb hk ht hs]
        unfold splitIn
        rw [List.all_eq_true] at h4 ⊢
        intro p' hp'
        simp only [List.mem_map] at hp'
        obtain ⟨p, hp, rfl⟩ := hp'
        exact fits_split hb hk hs (h4 p (by rw [← e1]; exact hp))
      · rename_i e
        rw [pred_split hf hb hk hd e, e1]
        exact h4
    · split at hy'
      · cases hy'; rfl
      · cases hy'
  · have hn : 1 ≤ f.blocks.length := by omega
    rcases uxB_split (fun y hy p hp => (even_of hf).phi y hy p hp |>.1) hu with hu | ⟨u0, hu0, e1, e2, e3, e4, e5, e6⟩
    · exact useOk_up hf hb hk ht hn (h3 u hu)
    · obtain ⟨d, q, g1, g2⟩ := h3 u0 hu0
      obtain ⟨r1, r2⟩ := ent_range hn (List.mem_of_find?_eq_some g1)
      simp only at r1 r2
      rcases g2 with ⟨-, g3⟩ | ⟨g2, -⟩
      · rw [e6] at g3
        refine ⟨d, q, by rw [ent_split, e1]; exact g1, .inl ⟨by omega, ?_⟩⟩
        rw [e5]
        exact over_split_n hf hb hk ht (by omega) g3
      · omega
end
end Go.Proofs.Ytefpmjnimnmniaa
namespace Go.Proofs.Ytefpmjnimnmniaa
set_option linter.unusedSimpArgs false
set_option linter.unusedVariables false
open Go.RowKit
theorem FuncV.later {W W' : World} {v : Value} {f : FuncD} (h : FuncV W v f) (hb : Below W.heap.size W W') : FuncV W' v f := h.below hb
theorem FuncV.alloc {W : World} {v : Value} {f : FuncD} (h : FuncV W v f) (o : Obj) : FuncV (W.alloc o) v f := h.below ((Below.refl _ _).alloc (Nat.le_refl _) o)
theorem still_nat {xs : List Int} (h : ∀ q ∈ xs, 0 ≤ q) (k n t : Nat) : (xs.set k (n : Int)).contains (t : Int) = ((xs.map Int.toNat).set k n).contains t := by
  have e : (xs.map Int.toNat).set k n = (xs.set k (n : Int)).map Int.toNat := by rw [List.map_set]; simp
  rw [e, Bool.eq_iff_iff, List.contains_iff_mem, List.contains_iff_mem]
  constructor
  · intro hm
    exact List.mem_map.2 ⟨_, hm, by simp⟩
  · intro hm
    obtain ⟨q, hq, hqt⟩ := List.mem_map.1 hm
    have h0 : 0 ≤ q := by
      rcases List.mem_or_eq_of_mem_set hq with h1 | h1
      · exact h q h1
      · omega
    have : q = (t : Int) := by omega
    rw [← this]; exact hq
theorem fault_zero {f : FuncD} {b : Int} (h : FaultR f b 0) : FaultR f 0 0 := by
  have h0 := h
  unfold FaultR at h
  rcases h with ⟨c, -, -, -, -, h⟩ | ⟨h1, ⟨c, x, -, -, -, -, h⟩ | ⟨h2, ⟨i, u, -, -, -, -, h⟩ | ⟨h3, rfl, -⟩⟩⟩
  · cases h
  · cases h
  · cases h
  · exact h0
theorem split_cases {f : FuncD} (hc : checkF f = 0) (hF : FaultR f 0 0) (b k : Int) : (splitF f b k).2 = 9 ∨ (splitF f b k).2 = 2 ∨ ((splitF f b k).2 = 0 ∧ checkF (splitF f b k).1 = 0 ∧ FaultR (splitF f b k).1 0 0) := by
  have hf := (check_fine hc).1
  have hz := (even_of hf).size
  have hl := (even_of hf).len
  by_cases h1 : 0 ≤ b ∧ b < f.blocks.length ∧ 0 ≤ k ∧ k < (f.blocks.getD b.toNat default).term.to.length
  · obtain ⟨bn, rfl⟩ : ∃ bn : Nat, b = bn := ⟨b.toNat, by omega⟩
    obtain ⟨kn, rfl⟩ : ∃ kn : Nat, k = kn := ⟨k.toNat, by omega⟩
    obtain ⟨x, hx⟩ : ∃ x, f.blocks[bn]? = some x := ⟨_, List.getElem?_eq_getElem (by omega)⟩
    have hk : kn < x.term.to.length := by
      have h2 := h1.2.2.2
      rw [Int.toNat_natCast, getD_some hx] at h2
      omega
    obtain ⟨q, hq⟩ : ∃ q, x.term.to[kn]? = some q := ⟨_, List.getElem?_eq_getElem hk⟩
    have hto := formB_to hf hx
    obtain ⟨t, rfl⟩ : ∃ t : Nat, q = t := ⟨q.toNat, by have := hto q (List.mem_of_getElem? hq); omega⟩
    by_cases h2 : f.blocks.length = 512 ∨ sizeF f = 4096
    · rw [splitF_full hc hx hk h2]; exact .inr (.inl rfl)
    · rw [splitF_ok hc hx hq (fun e => h2 (.inl e)) (fun e => h2 (.inr e))]
      have hs : (x.term.to.set kn (f.blocks.length : Int)).contains (t : Int) = ((toB f bn).set kn f.blocks.length).contains t := by
        rw [toB_at hx]
        exact still_nat (fun q hq => by have := hto q hq; omega) kn f.blocks.length t
      exact .inr (.inr ⟨rfl, check_split hc hx hq (by omega) (by omega) _, strict_split hc hF hx hq hs⟩)
  · left
    unfold splitF
    rw [if_neg (by simp [hc]), if_pos h1]
set_option maxHeartbeats 6400000 in
theorem walkSSplits {w : World} {v : Value} (f : FuncD) {a : Int} (kb : Bool) (hv : FuncV w v f) (ha : 0 ≤ a ∧ a ≤ 65535) :
    Calls Try.prog 21 #[v, .int .u16 a, .bool kb] w fun e w' => e = .returned (.bool true) ∧ Below w.heap.size w w' := by
  have HV := Lib.hid hv
  obtain ⟨ap, cp, ab, cb, rfl, -, -, -, -⟩ := hv.form
  obtain ⟨an, rfl⟩ : ∃ an : Nat, a = (an : Int) := ⟨a.toNat, by omega⟩
  obtain ⟨nb, hnb⟩ : ∃ nb, nb = f.blocks.length := ⟨_, rfl⟩
  rw [← hnb] at HV ⊢
  have HNB := Lib.hid hnb
  clear hv hnb
  go_enter Try.func21, Try.ntmps21
  go_upto_region 1 with (fail)
  have B1 : Hid (Box (w.alloc (.cells #[.slice ap f.params.length cp, .int .i64 f.arrays, .int .i64 f.cells, .slice ab nb cb] 30)) (w.heap.size) #[.slice ap f.params.length cp, .int .i64 f.arrays, .int .i64 f.cells, .slice ab nb cb]) := Lib.hid (by simpa using (Box.new w #[.slice ap f.params.length cp, .int .i64 f.arrays, .int .i64 f.cells, .slice ab nb cb] 30))
  have HW : Hid (Below w.heap.size w (w.alloc (.cells #[.slice ap f.params.length cp, .int .i64 f.arrays, .int .i64 f.cells, .slice ab nb cb] 30))) := Lib.hid ((Below.refl _ _).alloc (Nat.le_refl _) _)
  generalize (w.alloc (.cells #[.slice ap f.params.length cp, .int .i64 f.arrays, .int .i64 f.cells, .slice ab nb cb] 30)) = wv at *
  obtain ⟨lB1, cB1, fB1⟩ := B1.out
  go_wp2_with fail
  refine (checkG (HV.out.below HW.out)).mono ?_
  rintro e w2 ⟨b, k, rfl, h1, h2, hb⟩
  have H1 := Lib.hid h1
  have H2 := Lib.hid h2
  clear h1 h2
  clear lB1 cB1 fB1
  replace B1 := Lib.hid (B1.out.later hb)
  replace HW := Lib.hid (HW.out.trans (hb.mono HW.out.size))
  clear hb
  obtain ⟨lB1, cB1, fB1⟩ := B1.out
  go_wp2_with fail
  refine awake5.mono ?_
  rintro e w3 ⟨rfl, hb⟩
  clear lB1 cB1 fB1
  replace B1 := Lib.hid (B1.out.later hb)
  replace HW := Lib.hid (HW.out.trans (hb.mono HW.out.size))
  clear hb
  obtain ⟨lB1, cB1, fB1⟩ := B1.out
  cases hk : (k != 0)
  rotate_left
  · go_wp2_with fail
    refine awake5.mono ?_
    rintro e w4 ⟨rfl, hb⟩
    clear lB1 cB1 fB1
    replace B1 := Lib.hid (B1.out.later hb)
    replace HW := Lib.hid (HW.out.trans (hb.mono HW.out.size))
    clear hb
    obtain ⟨lB1, cB1, fB1⟩ := B1.out
    go_wp2
    go_ret
    exact ⟨rfl, HW.out⟩
  obtain rfl : k = 0 := by simpa using hk
  have HC : Hid (checkF f = 0) := Lib.hid (Classical.byContradiction fun h => h (H1.out h).2.symm)
  have HF : Hid (FaultR f 0 0) := Lib.hid (fault_zero (H2.out HC.out))
  have hn1 : 1 ≤ nb := by have := (formB_nb (check_fine HC.out).1).1; rw [← HNB.out] at this; exact this
  have hn5 : nb ≤ 512 := by have := (formB_nb (check_fine HC.out).1).2; rw [← HNB.out] at this; exact this
  clear H1 H2 hk
  obtain ⟨m, hm⟩ : ∃ m, m = an % nb := ⟨_, rfl⟩
  have hml : m < nb := by rw [hm]; exact Nat.mod_lt _ hn1
  have rm : Int.tmod (an : Int) (nb : Int) = (m : Int) := by rw [hm]; rfl
  clear hm
  cases kb
  · skip
    go_wp2_with fail
    refine (graphSplit (b := (m : Int)) (k := 0) (HV.out.below HW.out) ⟨by omega, by omega⟩ ⟨by decide, by decide⟩).mono ?_
    rintro e w4 ⟨va, S, rfl, hO, -, hb⟩
    have hcase := split_cases HC.out HF.out (m : Int) 0
    obtain ⟨fa, hfa⟩ : ∃ fa, fa = splitF f (m : Int) 0 := ⟨_, rfl⟩
    rw [← hfa] at hO hcase ⊢
    have HA := Lib.hid hO.reads
    obtain ⟨ap2, cp2, ab2, cb2, rfl, -, -, -, -⟩ := hO.reads.form
    obtain ⟨ea, hea⟩ : ∃ ea, ea = fa.2 := ⟨_, rfl⟩
    rw [← hea] at hcase ⊢
    have HCASE := Lib.hid hcase
    clear hO hfa hcase hea rm
    clear lB1 cB1 fB1
    replace B1 := Lib.hid (B1.out.later hb)
    replace HW := Lib.hid (HW.out.trans (hb.mono HW.out.size))
    clear hb
    obtain ⟨lB1, cB1, fB1⟩ := B1.out

    go_upto_region 9 with (fail)
    have nB2B1 : w4.heap.size ≠ w.heap.size := fun e => by have := lB1; omega
    have nB1B2 : w.heap.size ≠ w4.heap.size := fun e => nB2B1 e.symm
    have B1_ : Box (w4.alloc (.cells #[.slice ap2 fa.1.params.length cp2, .int .i64 fa.1.arrays, .int .i64 fa.1.cells, .slice ab2 fa.1.blocks.length cb2] 30)) (w.heap.size) #[.slice ap f.params.length cp, .int .i64 f.arrays, .int .i64 f.cells, .slice ab nb cb] := by simpa using (B1.out.alloc _)
    have B2_ : Box (w4.alloc (.cells #[.slice ap2 fa.1.params.length cp2, .int .i64 fa.1.arrays, .int .i64 fa.1.cells, .slice ab2 fa.1.blocks.length cb2] 30)) (w4.heap.size) #[.slice ap2 fa.1.params.length cp2, .int .i64 fa.1.arrays, .int .i64 fa.1.cells, .slice ab2 fa.1.blocks.length cb2] := by simpa using (Box.new w4 #[.slice ap2 fa.1.params.length cp2, .int .i64 fa.1.arrays, .int .i64 fa.1.cells, .slice ab2 fa.1.blocks.length cb2] 30)
    have HA_ := (HA.out.alloc (.cells #[.slice ap2 fa.1.params.length cp2, .int .i64 fa.1.arrays, .int .i64 fa.1.cells, .slice ab2 fa.1.blocks.length cb2] 30))
    have HW_ : Below w.heap.size w (w4.alloc (.cells #[.slice ap2 fa.1.params.length cp2, .int .i64 fa.1.arrays, .int .i64 fa.1.cells, .slice ab2 fa.1.blocks.length cb2] 30)) := (HW.out.alloc (by first | exact Nat.le_refl _ | exact HW.out.size | (simp only [World.size_alloc, World.size_setCell]; have := HW.out.size; omega)) _)
    clear lB1 cB1 fB1
    clear B1 HA HW
    generalize (w4.alloc (.cells #[.slice ap2 fa.1.params.length cp2, .int .i64 fa.1.arrays, .int .i64 fa.1.cells, .slice ab2 fa.1.blocks.length cb2] 30)) = w5 at *
    have B1 := Lib.hid B1_
    clear B1_
    have B2 := Lib.hid B2_
    clear B2_
    have HA := Lib.hid HA_
    clear HA_
    have HW := Lib.hid HW_
    clear HW_
    obtain ⟨lB1, cB1, fB1⟩ := B1.out
    obtain ⟨lB2, cB2, fB2⟩ := B2.out
    rcases HCASE.out with h9 | h9 | ⟨h9, hc9, hF9⟩
    · subst h9
      go_wp2
      go_ret
      exact ⟨rfl, HW.out⟩
    · subst h9
      go_wp2
      go_ret
      exact ⟨rfl, HW.out⟩
    · subst h9
      have HC9 := Lib.hid hc9
      have HF9 := Lib.hid hF9
      clear hc9 hF9 HCASE
      go_wp2_with fail
      refine (checkG HA.out).mono ?_
      rintro e w6 ⟨b2, k2, rfl, h1, h2, hb⟩
      have hk := (fault_one (h2 HC9.out) HF9.out).2
      subst hk
      clear h1 h2
      clear lB1 cB1 fB1 lB2 cB2 fB2
      replace B1 := Lib.hid (B1.out.later hb)
      replace B2 := Lib.hid (B2.out.later hb)
      replace HA := Lib.hid (HA.out.later hb)
      replace HW := Lib.hid (HW.out.trans (hb.mono HW.out.size))
      clear hb
      obtain ⟨lB1, cB1, fB1⟩ := B1.out
      obtain ⟨lB2, cB2, fB2⟩ := B2.out
      go_wp2
      go_ret
      exact ⟨rfl, HW.out⟩
  · skip
    go_wp2_with fail
    refine (graphSplit (b := (m : Int)) (k := 1) (HV.out.below HW.out) ⟨by omega, by omega⟩ ⟨by decide, by decide⟩).mono ?_
    rintro e w4 ⟨va, S, rfl, hO, -, hb⟩
    have hcase := split_cases HC.out HF.out (m : Int) 1
    obtain ⟨fa, hfa⟩ : ∃ fa, fa = splitF f (m : Int) 1 := ⟨_, rfl⟩
    rw [← hfa] at hO hcase ⊢
    have HA := Lib.hid hO.reads
    obtain ⟨ap2, cp2, ab2, cb2, rfl, -, -, -, -⟩ := hO.reads.form
    obtain ⟨ea, hea⟩ : ∃ ea, ea = fa.2 := ⟨_, rfl⟩
    rw [← hea] at hcase ⊢
    have HCASE := Lib.hid hcase
    clear hO hfa hcase hea rm
    clear lB1 cB1 fB1
    replace B1 := Lib.hid (B1.out.later hb)
    replace HW := Lib.hid (HW.out.trans (hb.mono HW.out.size))
    clear hb
    obtain ⟨lB1, cB1, fB1⟩ := B1.out

    go_upto_region 9 with (fail)
    have nB2B1 : w4.heap.size ≠ w.heap.size := fun e => by have := lB1; omega
    have nB1B2 : w.heap.size ≠ w4.heap.size := fun e => nB2B1 e.symm
    have B1_ : Box (w4.alloc (.cells #[.slice ap2 fa.1.params.length cp2, .int .i64 fa.1.arrays, .int .i64 fa.1.cells, .slice ab2 fa.1.blocks.length cb2] 30)) (w.heap.size) #[.slice ap f.params.length cp, .int .i64 f.arrays, .int .i64 f.cells, .slice ab nb cb] := by simpa using (B1.out.alloc _)
    have B2_ : Box (w4.alloc (.cells #[.slice ap2 fa.1.params.length cp2, .int .i64 fa.1.arrays, .int .i64 fa.1.cells, .slice ab2 fa.1.blocks.length cb2] 30)) (w4.heap.size) #[.slice ap2 fa.1.params.length cp2, .int .i64 fa.1.arrays, .int .i64 fa.1.cells, .slice ab2 fa.1.blocks.length cb2] := by simpa using (Box.new w4 #[.slice ap2 fa.1.params.length cp2, .int .i64 fa.1.arrays, .int .i64 fa.1.cells, .slice ab2 fa.1.blocks.length cb2] 30)
    have HA_ := (HA.out.alloc (.cells #[.slice ap2 fa.1.params.length cp2, .int .i64 fa.1.arrays, .int .i64 fa.1.cells, .slice ab2 fa.1.blocks.length cb2] 30))
    have HW_ : Below w.heap.size w (w4.alloc (.cells #[.slice ap2 fa.1.params.length cp2, .int .i64 fa.1.arrays, .int .i64 fa.1.cells, .slice ab2 fa.1.blocks.length cb2] 30)) := (HW.out.alloc (by first | exact Nat.le_refl _ | exact HW.out.size | (simp only [World.size_alloc, World.size_setCell]; have := HW.out.size; omega)) _)
    clear lB1 cB1 fB1
    clear B1 HA HW
    generalize (w4.alloc (.cells #[.slice ap2 fa.1.params.length cp2, .int .i64 fa.1.arrays, .int .i64 fa.1.cells, .slice ab2 fa.1.blocks.length cb2] 30)) = w5 at *
    have B1 := Lib.hid B1_
    clear B1_
    have B2 := Lib.hid B2_
    clear B2_
    have HA := Lib.hid HA_
    clear HA_
    have HW := Lib.hid HW_
    clear HW_
    obtain ⟨lB1, cB1, fB1⟩ := B1.out
    obtain ⟨lB2, cB2, fB2⟩ := B2.out
    rcases HCASE.out with h9 | h9 | ⟨h9, hc9, hF9⟩
    · subst h9
      go_wp2
      go_ret
      exact ⟨rfl, HW.out⟩
    · subst h9
      go_wp2
      go_ret
      exact ⟨rfl, HW.out⟩
    · subst h9
      have HC9 := Lib.hid hc9
      have HF9 := Lib.hid hF9
      clear hc9 hF9 HCASE
      go_wp2_with fail
      refine (checkG HA.out).mono ?_
      rintro e w6 ⟨b2, k2, rfl, h1, h2, hb⟩
      have hk := (fault_one (h2 HC9.out) HF9.out).2
      subst hk
      clear h1 h2
      clear lB1 cB1 fB1 lB2 cB2 fB2
      replace B1 := Lib.hid (B1.out.later hb)
      replace B2 := Lib.hid (B2.out.later hb)
      replace HA := Lib.hid (HA.out.later hb)
      replace HW := Lib.hid (HW.out.trans (hb.mono HW.out.size))
      clear hb
      obtain ⟨lB1, cB1, fB1⟩ := B1.out
      obtain ⟨lB2, cB2, fB2⟩ := B2.out
      go_wp2
      go_ret
      exact ⟨rfl, HW.out⟩
end Go.Proofs.Ytefpmjnimnmniaa
