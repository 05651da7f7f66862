/- What the claim needs, part 25. -/
import Derived.Test.YtefpmjnimnmniaaG6
import Derived.Test.YtefpmjnimnmniaaG16
import Derived.Test.YtefpmjnimnmniaaG23
namespace Go.Proofs.Ytefpmjnimnmniaa
set_option linter.unusedSimpArgs false
set_option linter.unusedVariables false
open Go.RowKit
def splitPhi (b n : Int) (still : Bool) (p : PhiD) : PhiD :=
  if b ∈ p.src then
    if still then { p with src := p.src ++ [n], vals := p.vals ++ [p.vals.getD (p.src.idxOf b) 0] } else { p with src := p.src.set (p.src.idxOf b) n }
  else p
def splitTo (k : Nat) (n : Int) (x : BlockD) : BlockD := { x with term := { x.term with to := x.term.to.set k n } }
def splitIn (b n : Int) (still : Bool) (y : BlockD) : BlockD := { y with phis := y.phis.map (splitPhi b n still) }
def jumpB (t : Int) : BlockD := ⟨[], [], ⟨1, -1, [t], 0⟩⟩
def splitAt (f : FuncD) (b k t : Nat) (still : Bool) : FuncD :=
  { f with blocks := (f.blocks.modify b (splitTo k f.blocks.length)).modify t (splitIn b f.blocks.length still) ++ [jumpB t] }
theorem map_modify {α β : Type} (φ : α → β) (g : α → α) (h : ∀ y, φ (g y) = φ y) (l : List α) (i : Nat) : (l.modify i g).map φ = l.map φ := by
  apply List.ext_getElem?
  intro j
  rw [List.getElem?_map, List.getElem?_map, List.getElem?_modify]
  cases l[j]? with
  | none => rfl
  | some a => by_cases e : i = j <;> simp [e, h]
theorem split_get (f : FuncD) (b k t : Nat) (still : Bool) (i : Nat) : (splitAt f b k t still).blocks[i]? =
    if i < f.blocks.length then (f.blocks[i]?).map (fun y => if i = t then splitIn b f.blocks.length still (if i = b then splitTo k f.blocks.length y else y) else if i = b then splitTo k f.blocks.length y else y)
    else if i = f.blocks.length then some (jumpB t) else none := by
  unfold splitAt
  simp only
  rw [List.getElem?_append]
  simp only [List.length_modify]
  by_cases h : i < f.blocks.length
  · rw [if_pos h, if_pos h, List.getElem?_modify, List.getElem?_modify]
    rw [List.getElem?_eq_getElem h]
    by_cases e1 : t = i <;> by_cases e2 : b = i <;> simp [e1, e2, eq_comm]
  · rw [if_neg h, if_neg h]
    by_cases e : i = f.blocks.length
    · subst e; simp
    · rw [if_neg e]
      have : i - f.blocks.length ≠ 0 := by omega
      cases hq : i - f.blocks.length with
      | zero => omega
      | succ q => simp
theorem split_len (f : FuncD) (b k t : Nat) (still : Bool) : (splitAt f b k t still).blocks.length = f.blocks.length + 1 := by
  unfold splitAt; simp
theorem size_split (f : FuncD) (b k t : Nat) (still : Bool) : sizeF (splitAt f b k t still) = sizeF f + 1 := by
  unfold sizeF splitAt
  simp only
  rw [List.map_append, List.sum_append, map_modify sizeB _ (fun y => by simp [sizeB, splitIn]), map_modify sizeB _ (fun y => by simp [sizeB, splitTo])]
  rfl
theorem splitPhi_id (b n : Int) (still : Bool) (p : PhiD) : (splitPhi b n still p).id = p.id ∧ (splitPhi b n still p).typ = p.typ := by
  unfold splitPhi
  split
  · split <;> exact ⟨rfl, rfl⟩
  · exact ⟨rfl, rfl⟩
theorem defsB_in (b n : Int) (still : Bool) (y : BlockD) : defsB (splitIn b n still y) = defsB y := by
  unfold defsB splitIn
  simp only [List.map_map]
  congr 1
  apply List.map_congr_left
  intro p _
  simp [splitPhi_id]
theorem defs_split (f : FuncD) (b k t : Nat) (still : Bool) : defsF (splitAt f b k t still) = defsF f := by
  unfold defsF splitAt
  simp only [List.flatMap_def]
  rw [List.map_append, map_modify defsB _ (fun y => defsB_in _ _ _ y), map_modify defsB (splitTo k f.blocks.length) (fun y => rfl)]
  simp [jumpB, defsB]
theorem vals_split (f : FuncD) (b k t : Nat) (still : Bool) : valsF (splitAt f b k t still) = valsF f := by
  unfold valsF
  rw [defs_split]; rfl
theorem phiOk_split {nb : Nat} {b : Int} {still : Bool} {p : PhiD} (h : phiOk nb p = true) : phiOk (nb + 1) (splitPhi b nb still p) = true := by
  unfold phiOk at h ⊢
  simp only [Bool.and_eq_true, List.all_eq_true, decide_eq_true_eq, beq_iff_eq] at h
  obtain ⟨⟨⟨h1, h2⟩, h3⟩, h4⟩ := h
  have hm : ∀ x ∈ p.src, numB (nb + 1) x = true := fun x hx => by
    have := h3 x hx
    unfold numB at this ⊢
    simp at this ⊢; omega
  have hno : (nb : Int) ∉ p.src := fun hx => by
    have := h3 _ hx
    unfold numB at this
    simp at this
  have hnb : numB (nb + 1) (nb : Int) = true := by unfold numB; simp; omega
  simp only [Bool.and_eq_true, List.all_eq_true, decide_eq_true_eq, beq_iff_eq]
  unfold splitPhi
  split
  · rename_i hb
    split
    · refine ⟨⟨⟨h1, by simp [h2]⟩, fun x hx => ?_⟩, ?_⟩
      · rcases List.mem_append.1 hx with hx | hx
        · exact hm x hx
        · rw [List.mem_singleton.1 hx]; exact hnb
      · rw [List.nodup_append]
        exact ⟨h4, by simp, fun a ha c hc e => by rw [List.mem_singleton] at hc; exact hno (by rw [← hc, ← e]; exact ha)⟩
    · refine ⟨⟨⟨h1, by simp [h2]⟩, fun x hx => ?_⟩, ?_⟩
      · rcases List.mem_or_eq_of_mem_set hx with hx | hx
        · exact hm x hx
        · rw [hx]; exact hnb
      · rw [List.nodup_iff_pairwise_ne, List.pairwise_iff_getElem]
        intro i j hi hj hij
        rw [List.getElem_set, List.getElem_set]
        have hi' : i < p.src.length := by simpa using hi
        have hj' : j < p.src.length := by simpa using hj
        split
        · split
          · omega
          · intro e; exact hno (e ▸ List.getElem_mem hj')
        · split
          · intro e; exact hno (e ▸ List.getElem_mem hi')
          · intro e
            rw [List.nodup_iff_pairwise_ne, List.pairwise_iff_getElem] at h4
            exact h4 i j hi' hj' hij e
  · exact ⟨⟨⟨h1, h2⟩, hm⟩, h4⟩
theorem usesP_split {b n : Int} {still : Bool} {p : PhiD} {nb : Nat} (h : phiOk nb p = true) : ∀ u ∈ usesP (splitPhi b n still p), u ∈ usesP p := by
  unfold phiOk at h
  simp only [Bool.and_eq_true, List.all_eq_true, decide_eq_true_eq, beq_iff_eq] at h
  obtain ⟨⟨⟨-, h2⟩, -⟩, -⟩ := h
  intro u hu
  unfold splitPhi at hu
  split at hu
  · rename_i hb
    split at hu
    · unfold usesP at hu ⊢
      simp only [List.map_append, List.mem_append, List.map_cons, List.map_nil, List.mem_singleton] at hu
      rcases hu with hu | hu
      · exact hu
      · rw [hu, List.mem_map]
        have hl : p.src.idxOf b < p.vals.length := by rw [← h2]; exact List.idxOf_lt_length_of_mem hb
        exact ⟨_, by rw [List.getD_eq_getElem?_getD, List.getElem?_eq_getElem hl]; exact List.getElem_mem hl, rfl⟩
    · exact hu
  · exact hu
theorem usesE_zero (T us : List (Int × Int)) : usesE T us = 0 ↔ ∀ u ∈ us, (tyOf T u.1).isSome = true ∧ useOdd T u = false := by
  unfold usesE
  constructor
  · intro h u hu
    split at h
    · cases h
    · split at h
      · cases h
      · rename_i h1 h2
        simp only [Bool.not_eq_true, List.any_eq_false] at h1 h2
        exact ⟨by simpa using h1 u hu, by simpa using h2 u hu⟩
  · intro h
    have h1 : us.any (fun u => !(tyOf T u.1).isSome) = false := by rw [List.any_eq_false]; intro u hu; simp [(h u hu).1]
    have h2 : us.any (useOdd T) = false := by rw [List.any_eq_false]; intro u hu; simp [(h u hu).2]
    rw [h1, h2]; simp
theorem check_zero {f : FuncD} : checkF f = 0 ↔ headOk f = true ∧ f.params.all parOk = true ∧ (∀ i x, f.blocks[i]? = some x → blockOk f.blocks.length f.arrays f.cells (x, i) = true) ∧ idsF f = true ∧ ∀ x ∈ f.blocks, ∀ u ∈ usesB x, (tyOf (valsF f) u.1).isSome = true ∧ useOdd (valsF f) u = false := by
  unfold checkF formB
  constructor
  · intro h
    split at h
    · rename_i h1
      simp only [Bool.and_eq_true] at h1
      refine ⟨h1.1.1.1, h1.1.1.2, fun i x hi => List.all_eq_true.1 h1.1.2 (x, i) (by rw [List.mem_zipIdx_iff_getElem?]; exact hi), h1.2, fun x hx u hu => (usesE_zero _ _).1 h u ?_⟩
      unfold usesF
      rw [List.mem_flatMap]
      exact ⟨x, hx, hu⟩
    · cases h
  · rintro ⟨h1, h2, h3, h4, h5⟩
    have h6 : f.blocks.zipIdx.all (blockOk f.blocks.length f.arrays f.cells) = true := by
      rw [List.all_eq_true]
      rintro ⟨x, i⟩ hx
      rw [List.mem_zipIdx_iff_getElem?] at hx
      exact h3 i x hx
    rw [h1, h2, h6, h4]
    simp only [Bool.and_self, if_true]
    rw [usesE_zero]
    intro u hu
    unfold usesF at hu
    rw [List.mem_flatMap] at hu
    obtain ⟨x, hx, hu⟩ := hu
    exact h5 x hx u hu
theorem blockOk_parts {nb : Nat} {ar ce : Int} {x : BlockD} {i : Nat} : blockOk nb ar ce (x, i) = true ↔ (i = 0 → x.phis = []) ∧ (∀ p ∈ x.phis, phiOk nb p = true) ∧ (x.code.all (instrOk ar ce)) = true ∧ endOk nb x.term = true := by
  unfold blockOk
  simp only [Bool.and_eq_true, List.all_eq_true, Bool.not_eq_true', Bool.and_eq_false_iff, decide_eq_false_iff_not]
  constructor
  · rintro ⟨⟨⟨h1, h2⟩, h3⟩, h4⟩
    refine ⟨fun hi => ?_, h2, h3, h4⟩
    rcases h1 with h1 | h1
    · exact absurd hi h1
    · exact List.eq_nil_of_length_eq_zero (by omega)
  · rintro ⟨h1, h2, h3, h4⟩
    refine ⟨⟨⟨?_, h2⟩, h3⟩, h4⟩
    by_cases hi : i = 0
    · right; rw [h1 hi]; simp
    · left; exact hi
theorem endOk_up {nb : Nat} {t : TermD} (h : endOk nb t = true) : endOk (nb + 1) t = true := by
  unfold endOk at h ⊢
  rw [Bool.and_eq_true] at h ⊢
  refine ⟨?_, h.2⟩
  rw [List.all_eq_true]
  intro b hb
  have := List.all_eq_true.1 h.1 b hb
  simp at this ⊢; omega
theorem endOk_set {nb : Nat} {t : TermD} {k : Nat} (h : endOk nb t = true) (h1 : 1 ≤ nb) : endOk (nb + 1) { t with to := t.to.set k nb } = true := by
  have h9 := endOk_up h
  unfold endOk at h9 ⊢
  rw [Bool.and_eq_true] at h9 ⊢
  simp only [List.length_set]
  refine ⟨?_, h9.2⟩
  rw [List.all_eq_true]
  intro b hb
  rcases List.mem_or_eq_of_mem_set hb with hb | hb
  · exact List.all_eq_true.1 h9.1 b hb
  · subst hb; simp; omega
theorem endOk_to {nb : Nat} {t : TermD} (h : endOk nb t = true) {k : Nat} {q : Int} (hk : t.to[k]? = some q) : 1 ≤ q ∧ q < nb := by
  unfold endOk at h
  rw [Bool.and_eq_true] at h
  have := List.all_eq_true.1 h.1 q (List.mem_of_getElem? hk)
  simpa using this
theorem phiOk_up {nb : Nat} {p : PhiD} (h : phiOk nb p = true) : phiOk (nb + 1) p = true := by
  unfold phiOk at h ⊢
  simp only [Bool.and_eq_true] at h ⊢
  refine ⟨⟨h.1.1, ?_⟩, h.2⟩
  rw [List.all_eq_true]
  intro b hb
  have := List.all_eq_true.1 h.1.2 b hb
  unfold numB at this ⊢
  simp at this ⊢; omega
theorem check_split {f : FuncD} (h : checkF f = 0) {b k t : Nat} {x : BlockD} (hb : f.blocks[b]? = some x) (hk : x.term.to[k]? = some (t : Int)) (hn : f.blocks.length < 512) (hs : sizeF f < 4096) (still : Bool) : checkF (splitAt f b k t still) = 0 := by
  obtain ⟨h1, h2, h3, h4, h5⟩ := check_zero.1 h
  rw [check_zero]
  have ht := endOk_to (blockOk_parts.1 (h3 b x hb)).2.2.2 hk
  refine ⟨?_, h2, fun i y' hy => ?_, ?_, fun y' hy' u hu => ?_⟩
  · unfold headOk at h1 ⊢
    rw [size_split, split_len]
    simp only [Bool.and_eq_true, decide_eq_true_eq] at h1 ⊢
    obtain ⟨⟨⟨⟨⟨⟨⟨k1, k2⟩, k3⟩, k4⟩, k5⟩, k6⟩, k7⟩, k8⟩ := h1
    exact ⟨⟨⟨⟨⟨⟨⟨k1, k2⟩, k3⟩, k4⟩, k5⟩, by omega⟩, by omega⟩, by omega⟩
  · rw [split_len]
    show blockOk (f.blocks.length + 1) f.arrays f.cells (y', i) = true
    rw [split_get] at hy
    split at hy
    · rename_i hi
      rw [Option.map_eq_some_iff] at hy
      obtain ⟨y, hy, rfl⟩ := hy
      obtain ⟨q1, q2, q3, q4⟩ := blockOk_parts.1 (h3 i y hy)
      have q5 : (if i = b then splitTo k f.blocks.length y else y).phis = y.phis ∧ (if i = b then splitTo k f.blocks.length y else y).code = y.code ∧ endOk (f.blocks.length + 1) (if i = b then splitTo k f.blocks.length y else y).term = true := by
        split
        · exact ⟨rfl, rfl, endOk_set q4 (by omega)⟩
        · exact ⟨rfl, rfl, endOk_up q4⟩
      obtain ⟨e1, e2, e3⟩ := q5
      generalize (if i = b then splitTo k f.blocks.length y else y) = z at *
      rw [blockOk_parts]
      split
      · refine ⟨fun hi0 => by omega, fun p hp => ?_, by show (z.code.all _) = true; rw [e2]; exact q3, e3⟩
        unfold splitIn at hp
        simp only [List.mem_map] at hp
        obtain ⟨p0, hp0, rfl⟩ := hp
        rw [e1] at hp0
        exact phiOk_split (q2 p0 hp0)
      · rw [e1, e2]
        exact ⟨q1, fun p hp => phiOk_up (q2 p hp), q3, e3⟩
    · split at hy
      · cases hy
        rw [blockOk_parts]
        refine ⟨fun _ => rfl, fun p hp => absurd hp (by simp [jumpB]), rfl, ?_⟩
        unfold endOk jumpB
        simp only [List.all_cons, List.all_nil, Bool.and_true, Bool.and_eq_true]
        refine ⟨by simp; omega, by simp⟩
      · cases hy
  · unfold idsF
    rw [defs_split]
    exact h4
  · rw [vals_split]
    obtain ⟨i, hi⟩ := List.getElem?_of_mem hy'
    rw [split_get] at hi
    split at hi
    · rw [Option.map_eq_some_iff] at hi
      obtain ⟨y, hy, rfl⟩ := hi
      refine h5 y (List.mem_of_getElem? hy) u ?_
      obtain ⟨q1, q2, q3, q4⟩ := blockOk_parts.1 (h3 i y hy)
      have q5 : (if i = b then splitTo k f.blocks.length y else y).phis = y.phis ∧ (if i = b then splitTo k f.blocks.length y else y).code = y.code ∧ usesT (if i = b then splitTo k f.blocks.length y else y).term = usesT y.term := by
        split
        · exact ⟨rfl, rfl, rfl⟩
        · exact ⟨rfl, rfl, rfl⟩
      obtain ⟨e1, e2, e3⟩ := q5
      generalize (if i = b then splitTo k f.blocks.length y else y) = z at *
      split at hu
      · unfold usesB splitIn at hu
        simp only at hu
        rw [e1, e2, e3] at hu
        unfold usesB
        simp only [List.mem_append] at hu ⊢
        rcases hu with (hu | hu) | hu
        · refine .inl (.inl ?_)
          rw [List.mem_flatMap] at hu ⊢
          obtain ⟨p', hp', hu⟩ := hu
          rw [List.mem_map] at hp'
          obtain ⟨p, hp, rfl⟩ := hp'
          exact ⟨p, hp, usesP_split (q2 p hp) u hu⟩
        · exact .inl (.inr hu)
        · exact .inr hu
      · unfold usesB at hu ⊢
        rw [e1, e2, e3] at hu
        exact hu
    · split at hi
      · cases hi
        simp [usesB, jumpB, usesT] at hu
      · cases hi
end Go.Proofs.Ytefpmjnimnmniaa
namespace Go.Proofs.Ytefpmjnimnmniaa
set_option linter.unusedSimpArgs false
set_option linter.unusedVariables false
open Go.RowKit
def zeroF : FuncD := ⟨[], 0, 0, []⟩
def stillB (f : FuncD) (b k : Nat) (t : Int) : Bool := ((f.blocks.getD b default).term.to.set k (f.blocks.length : Int)).contains t
def splitF (f : FuncD) (b k : Int) : FuncD × Int :=
  if checkF f ≠ 0 then (zeroF, checkF f) else
  if ¬ (0 ≤ b ∧ b < f.blocks.length ∧ 0 ≤ k ∧ k < (f.blocks.getD b.toNat default).term.to.length) then (zeroF, 9) else
  if f.blocks.length = 512 ∨ sizeF f = 4096 then (zeroF, 2) else
  (splitAt f b.toNat k.toNat ((f.blocks.getD b.toNat default).term.to.getD k.toNat 0).toNat (stillB f b.toNat k.toNat ((f.blocks.getD b.toNat default).term.to.getD k.toNat 0)), 0)
theorem splitF_bad {f : FuncD} {b k : Int} (h : checkF f ≠ 0) : splitF f b k = (zeroF, checkF f) := by unfold splitF; rw [if_pos h]
theorem splitF_none {f : FuncD} {b k : Int} (h : checkF f = 0) (h2 : b < 0 ∨ (f.blocks.length : Int) ≤ b ∨ k < 0 ∨ ∃ x, f.blocks[b.toNat]? = some x ∧ (x.term.to.length : Int) ≤ k) : splitF f b k = (zeroF, 9) := by
  unfold splitF
  rw [if_neg (by simp [h]), if_pos]
  rintro ⟨q1, q2, q3, q4⟩
  rcases h2 with h2 | h2 | h2 | ⟨x, hx, h2⟩
  · omega
  · omega
  · omega
  · rw [List.getD_eq_getElem?_getD, hx] at q4
    simp only [Option.getD_some] at q4
    omega
theorem getD_some {α : Type} {l : List α} {i : Nat} {x d : α} (h : l[i]? = some x) : l.getD i d = x := by rw [List.getD_eq_getElem?_getD, h]; rfl
theorem splitF_full {f : FuncD} {b k : Nat} {x : BlockD} (h : checkF f = 0) (hx : f.blocks[b]? = some x) (hk : k < x.term.to.length) (h2 : f.blocks.length = 512 ∨ sizeF f = 4096) : splitF f b k = (zeroF, 2) := by
  have hl := (List.getElem?_eq_some_iff.1 hx).1
  unfold splitF
  rw [if_neg (by simp [h]), if_neg, if_pos h2]
  rw [Int.toNat_natCast, getD_some hx]
  intro hc
  exact hc ⟨by omega, by omega, by omega, by omega⟩
theorem splitF_ok {f : FuncD} {b k : Nat} {x : BlockD} {t : Nat} (h : checkF f = 0) (hx : f.blocks[b]? = some x) (hk : x.term.to[k]? = some (t : Int)) (h2 : f.blocks.length ≠ 512) (h3 : sizeF f ≠ 4096) :
    splitF f b k = (splitAt f b k t ((x.term.to.set k (f.blocks.length : Int)).contains (t : Int)), 0) := by
  have hl := (List.getElem?_eq_some_iff.1 hx).1
  have hkl := (List.getElem?_eq_some_iff.1 hk).1
  unfold splitF stillB
  rw [Int.toNat_natCast, Int.toNat_natCast, getD_some hx, getD_some hk, Int.toNat_natCast, if_neg (by simp [h]), if_neg, if_neg (by omega)]
  intro hc
  exact hc ⟨by omega, by omega, by omega, by omega⟩
theorem modify_set {α : Type} {l : List α} {i : Nat} {x : α} (g : α → α) (h : l[i]? = some x) : l.modify i g = l.set i (g x) := by
  apply List.ext_getElem?
  intro j
  rw [List.getElem?_modify, List.getElem?_set]
  by_cases e : i = j
  · subst e
    have := (List.getElem?_eq_some_iff.1 h).1
    rw [h, if_pos rfl, if_pos this]; simp
  · simp [e]
theorem splitAt_set {f : FuncD} {b k t : Nat} {x y : BlockD} (hx : f.blocks[b]? = some x) (hy : (f.blocks.set b (splitTo k f.blocks.length x))[t]? = some y) (still : Bool) :
    (splitAt f b k t still).blocks = (f.blocks.set b (splitTo k f.blocks.length x)).set t (splitIn b f.blocks.length still y) ++ [jumpB t] := by
  unfold splitAt
  simp only
  rw [modify_set _ hx, modify_set _ hy]
def upTo {α : Type} (g : α → α) (l : List α) (i : Nat) : List α := (l.take i).map g ++ l.drop i
theorem upTo_zero {α : Type} (g : α → α) (l : List α) : upTo g l 0 = l := by simp [upTo]
theorem upTo_all {α : Type} (g : α → α) (l : List α) : upTo g l l.length = l.map g := by simp [upTo]
theorem upTo_len {α : Type} (g : α → α) (l : List α) (i : Nat) : (upTo g l i).length = l.length := by simp [upTo]; omega
theorem upTo_at {α : Type} {g : α → α} {l : List α} {i : Nat} {x : α} (h : l[i]? = some x) : (upTo g l i)[i]? = some x ∧ (upTo g l i).set i (g x) = upTo g l (i + 1) := by
  have hl := (List.getElem?_eq_some_iff.1 h).1
  have ht : ((l.take i).map g).length = i := by rw [List.length_map, List.length_take]; omega
  have hd : l.drop i = x :: l.drop (i + 1) := by rw [← (List.getElem?_eq_some_iff.1 h).2]; exact List.drop_eq_getElem_cons hl
  unfold upTo
  constructor
  · rw [List.getElem?_append_right (by omega), ht, Nat.sub_self, hd]; rfl
  · rw [List.set_append_right _ _ (by omega), ht, Nat.sub_self, hd, List.set_cons_zero, List.take_add_one, h, Option.toList_some, List.map_append, List.append_assoc]; rfl
end Go.Proofs.Ytefpmjnimnmniaa
namespace Go.Proofs.Ytefpmjnimnmniaa
set_option linter.unusedSimpArgs false
set_option linter.unusedVariables false
open Go.RowKit
def toOk (nb : Nat) (b : Int) : Bool := decide (1 ≤ b) && decide (b < (nb : Int))
theorem endOk_is (nb : Nat) (t : TermD) : endOk nb t = (t.to.all (toOk nb) && ((t.op == 1 && ((t.to.length : Int) == 1) && t.val == -1 && t.n == 0) || (t.op == 2 && ((t.to.length : Int) == 2) && t.n == 0) || (t.op == 3 && ((t.to.length : Int) == 0) && t.n == 0) || (t.op == 4 && ((t.to.length : Int) == 0) && t.val == -1 && decide (0 ≤ t.n)))) := by
  unfold endOk
  rw [show (t.to.length == 1) = ((t.to.length : Int) == 1) by (rw [Bool.eq_iff_iff]; simp; omega), show (t.to.length == 2) = ((t.to.length : Int) == 2) by (rw [Bool.eq_iff_iff]; simp; omega), show (t.to.length == 0) = ((t.to.length : Int) == 0) by (rw [Bool.eq_iff_iff]; simp)]
  rfl
set_option maxHeartbeats 6400000 in
theorem refEnd {w : World} {ap ab : Option Addr} {np cp nb cb : Nat} {ar ce : Int} {t : TermD} {at_ : Option Addr} {ct : Nat} (hs : Ints w (.slice at_ t.to.length ct) t.to) :
    Calls Try.prog 95 #[.agg #[.slice ap np cp, .int .i64 ar, .int .i64 ce, .slice ab nb cb], .agg (termA t at_ ct)] w fun e w' => e = .returned (.bool (endOk nb t)) ∧ Below w.heap.size w w' := by
  have HE := Lib.hid (endOk_is nb t)
  obtain ⟨r, hr⟩ : ∃ r, r = endOk nb t := ⟨_, rfl⟩
  rw [← hr] at HE ⊢
  clear hr
  obtain ⟨op, val, to, N⟩ := t
  unfold termA
  simp only at *
  obtain ⟨a, cap, b, o, hav, hc, hcm, ha, hx⟩ := hs.parts
  cases hav
  have hle := hs.1.big
  obtain ⟨n, hn⟩ : ∃ n, n = to.length := ⟨_, rfl⟩
  rw [← hn] at HE hc ha hx hle ⊢
  have HN := Lib.hid hn
  have HA := Lib.hid ha
  have HX := Lib.hid hx
  clear hn ha hx hs
  go_enter Try.func95, Try.ntmps95
  go_upto_region 1 with (fail)
  have B2 : Hid (Box ((w.alloc (.cells #[.slice ap np cp, .int .i64 ar, .int .i64 ce, .slice ab nb cb] 30)).alloc (.cells #[.int .i64 op, .int .i64 val, .slice at_ n ct, .int .i64 N] 53)) (w.heap.size) #[.slice ap np cp, .int .i64 ar, .int .i64 ce, .slice ab nb cb]) := Lib.hid (by simpa using ((Box.new w #[.slice ap np cp, .int .i64 ar, .int .i64 ce, .slice ab nb cb] 30).alloc _))
  have B3 : Hid (Box ((w.alloc (.cells #[.slice ap np cp, .int .i64 ar, .int .i64 ce, .slice ab nb cb] 30)).alloc (.cells #[.int .i64 op, .int .i64 val, .slice at_ n ct, .int .i64 N] 53)) (w.heap.size + 1) #[.int .i64 op, .int .i64 val, .slice at_ n ct, .int .i64 N]) := Lib.hid (by simpa using (Box.new (w.alloc (.cells #[.slice ap np cp, .int .i64 ar, .int .i64 ce, .slice ab nb cb] 30)) #[.int .i64 op, .int .i64 val, .slice at_ n ct, .int .i64 N] 53))
  have HW : Hid (Below w.heap.size w ((w.alloc (.cells #[.slice ap np cp, .int .i64 ar, .int .i64 ce, .slice ab nb cb] 30)).alloc (.cells #[.int .i64 op, .int .i64 val, .slice at_ n ct, .int .i64 N] 53))) := Lib.hid (((Below.refl _ _).alloc (Nat.le_refl _) _).alloc (by simp) _)
  generalize ((w.alloc (.cells #[.slice ap np cp, .int .i64 ar, .int .i64 ce, .slice ab nb cb] 30)).alloc (.cells #[.int .i64 op, .int .i64 val, .slice at_ n ct, .int .i64 N] 53)) = wv at *
  obtain ⟨lB2, cB2, fB2⟩ := B2.out
  obtain ⟨lB3, cB3, fB3⟩ := B3.out
  go_wp2_with fail
  go_loopw [5] (fun i wr => ∃ j : Nat, j ≤ n ∧ i = .int .i64 j ∧ (to.take j).all (toOk nb) = true ∧ Below w.heap.size w wr ∧ Box wr w.heap.size #[.slice ap np cp, .int .i64 ar, .int .i64 ce, .slice ab nb cb] ∧ Box wr (w.heap.size + 1) #[.int .i64 op, .int .i64 val, .slice at_ n ct, .int .i64 N]) (fun i _ => n - (intOf i).toNat)
  case atStart => exact ⟨0, Nat.zero_le _, rfl, rfl, HW.out, B2.out, B3.out⟩
  case round =>
    obtain ⟨j, hj, rfl, hall, hW, hB2, hB3⟩ := hrel
    clear lB2 cB2 fB2 lB3 cB3 fB3
    have HALL := Lib.hid hall
    replace HW := Lib.hid hW
    replace B2 := Lib.hid hB2
    replace B3 := Lib.hid hB3
    clear hall hW hB2 hB3

    obtain ⟨lB2, cB2, fB2⟩ := B2.out
    obtain ⟨lB3, cB3, fB3⟩ := B3.out
    by_cases hlt : j < n
    · obtain ⟨rfl, hbw⟩ := HA.out (by omega)
      have h0 := (HW.out.cell hbw).trans (HX.out j hlt)
      have hjx := list_at to j (by have := HN.out; omega)
      have HTS := Lib.hid (take_snoc to j _ hjx)
      have HM := Lib.hid (List.mem_of_getElem? hjx)
      clear hjx
      generalize to.getD j 0 = y at *
      cases hy1 : decide (y < 1)
      · cases hy2 : decide ((nb : Int) ≤ y)
        · have HY : Hid (toOk nb y = true) := Lib.hid (by unfold toOk; simp at hy1 hy2 ⊢; omega)
          go_upto_region 4 with (fail)
          go_quiet (fail)
          go_wp2
          go_roundw
          case rel => exact ⟨j + 1, hlt, by go_num, by rw [HTS.out, List.all_append, HALL.out]; simp [HY.out], below_drewN HW.out _, B2.out.drewN _, B3.out.drewN _⟩
          case measure => simp [intOf]; omega
        · have HY : Hid (toOk nb y = false) := Lib.hid (by unfold toOk; simp at hy1 hy2 ⊢; omega)
          go_upto_region 4 with (fail)
          go_quiet (fail)
          go_wp2
          go_ret
          exact ⟨by rw [HE.out, show to.all (toOk nb) = false by (rw [List.all_eq_false]; exact ⟨y, HM.out, by rw [HY.out]; simp⟩)]; rfl, below_drewN HW.out _⟩
      · have HY : Hid (toOk nb y = false) := Lib.hid (by unfold toOk; simp at hy1 ⊢; omega)
        go_upto_region 4 with (fail)
        go_quiet (fail)
        go_wp2
        go_ret
        exact ⟨by rw [HE.out, show to.all (toOk nb) = false by (rw [List.all_eq_false]; exact ⟨y, HM.out, by rw [HY.out]; simp⟩)]; rfl, below_drewN HW.out _⟩
    · obtain rfl : j = n := by omega
      rw [List.take_of_length_le (by have := HN.out; omega)] at HALL
      rw [HALL.out, Bool.true_and] at HE
      by_cases h1 : op = 1
      · subst h1
        cases hn1 : ((j : Int) == 1) <;> cases hv : (val == -1) <;> cases hN : (N == 0)
        all_goals
          rw [hn1, hv, hN] at HE
          go_wp2
          go_ret
          exact ⟨by rw [HE.out]; simp, HW.out⟩
      · by_cases h2 : op = 2
        · subst h2
          cases hn1 : ((j : Int) == 2) <;> cases hN : (N == 0)
          all_goals
            rw [hn1, hN] at HE
            clear h1
            go_wp2
            go_ret
            exact ⟨by rw [HE.out]; simp, HW.out⟩
        · by_cases h3 : op = 3
          · subst h3
            cases hn1 : ((j : Int) == 0) <;> cases hN : (N == 0)
            all_goals
              rw [hn1, hN] at HE
              clear h1 h2
              go_wp2
              go_ret
              exact ⟨by rw [HE.out]; simp, HW.out⟩
          · by_cases h4 : op = 4
            · subst h4
              cases hn1 : ((j : Int) == 0) <;> cases hv : (val == -1) <;> cases hN : decide (0 ≤ N)
              all_goals
                rw [hn1, hv, hN] at HE
                clear h1 h2 h3
                go_wp2
                go_ret
                exact ⟨by rw [HE.out]; simp, HW.out⟩
            · have e1 : (op == 1) = false := by simpa using h1
              have e2 : (op == 2) = false := by simpa using h2
              have e3 : (op == 3) = false := by simpa using h3
              have e4 : (op == 4) = false := by simpa using h4
              clear h1 h2 h3 h4
              rw [e1, e2, e3, e4] at HE
              go_wp2
              go_ret
              exact ⟨by rw [HE.out]; simp, HW.out⟩
end Go.Proofs.Ytefpmjnimnmniaa
