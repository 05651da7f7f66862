/- What the claim needs, part 24. -/
import Derived.Test.YtefpmjnimnmniaaH6
import Derived.Test.YtefpmjnimnmniaaH16
import Derived.Test.YtefpmjnimnmniaaH22
namespace Go.Proofs.Ytefpmjnimnmniaa
set_option linter.unusedSimpArgs false
set_option linter.unusedVariables false
open Go.RowKit
def splitPhi (b n : Int) (still : Bool) (p : PhiD) : PhiD :=
  if b ∈ p.src then
    if still then { p with src := p.src ++ [n], vals := p.vals ++ [p.vals.getD (p.src.idxOf b) 0] } else { p with src := p.src.set (p.src.idxOf b) n }
  else p
def splitTo (k : Nat) (n : Int) (x : BlockD) : BlockD := { x with term := { x.term with to := x.term.to.set k n } }
def splitIn (b n : Int) (still : Bool) (y : BlockD) : BlockD := { y with phis := y.phis.map (splitPhi b n still) }
def jumpB (t : Int) : BlockD := ⟨[], [], ⟨1, -1, [t], 0⟩⟩
def splitAt (f : FuncD) (b k t : Nat) (still : Bool) : FuncD :=
  { f with blocks := (f.blocks.modify b (splitTo k f.blocks.length)).modify t (splitIn b f.blocks.length still) ++ [jumpB t] }
theorem map_modify {α β : Type} (φ : α → β) (g : α → α) (h : ∀ y, φ (g y) = φ y) (l : List α) (i : Nat) : (l.modify i g).map φ = l.map φ := by
  apply List.ext_getElem?
  intro j
  rw [List.getElem?_map, List.getElem?_map, List.getElem?_modify]
  cases l[j]? with
  | none => rfl
  | some a => by_cases e : i = j <;> simp [e, h]
theorem split_get (f : FuncD) (b k t : Nat) (still : Bool) (i : Nat) : (splitAt f b k t still).blocks[i]? =
    if i < f.blocks.length then (f.blocks[i]?).map (fun y => if i = t then splitIn b f.blocks.length still (if i = b then splitTo k f.blocks.length y else y) else if i = b then splitTo k f.blocks.length y else y)
    else if i = f.blocks.length then some (jumpB t) else none := by
  unfold splitAt
  simp only
  rw [List.getElem?_append]
  simp only [List.length_modify]
  by_cases h : i < f.blocks.length
  · rw [if_pos h, if_pos h, List.getElem?_modify, List.getElem?_modify]
    rw [List.getElem?_eq_getElem h]
    by_cases e1 : t = i <;> by_cases e2 : b = i <;> simp [e1, e2, eq_comm]
  · rw [if_neg h, if_neg h]
    by_cases e : i = f.blocks.length
    · subst e; simp
    · rw [if_neg e]
      have : i - f.blocks.length ≠ 0 := by omega
      cases hq : i - f.blocks.length with
      | zero => omega
      | succ q => simp
theorem split_len (f : FuncD) (b k t : Nat) (still : Bool) : (splitAt f b k t still).blocks.length = f.blocks.length + 1 := by
  unfold splitAt; simp
theorem size_split (f : FuncD) (b k t : Nat) (still : Bool) : sizeF (splitAt f b k t still) = sizeF f + 1 := by
  unfold sizeF splitAt
  simp only
  rw [List.map_append, List.sum_append, map_modify sizeB _ (fun y => by simp [sizeB, splitIn]), map_modify sizeB _ (fun y => by simp [sizeB, splitTo])]
  rfl
theorem splitPhi_id (b n : Int) (still : Bool) (p : PhiD) : (splitPhi b n still p).id = p.id ∧ (splitPhi b n still p).typ = p.typ := by
  unfold splitPhi
  split
  · split <;> exact ⟨rfl, rfl⟩
  · exact ⟨rfl, rfl⟩
theorem defsB_in (b n : Int) (still : Bool) (y : BlockD) : defsB (splitIn b n still y) = defsB y := by
  unfold defsB splitIn
  simp only [List.map_map]
  congr 1
  apply List.map_congr_left
  intro p _
  simp [splitPhi_id]
theorem defs_split (f : FuncD) (b k t : Nat) (still : Bool) : defsF (splitAt f b k t still) = defsF f := by
  unfold defsF splitAt
  simp only [List.flatMap_def]
  rw [List.map_append, map_modify defsB _ (fun y => defsB_in _ _ _ y), map_modify defsB (splitTo k f.blocks.length) (fun y => rfl)]
  simp [jumpB, defsB]
theorem vals_split (f : FuncD) (b k t : Nat) (still : Bool) : valsF (splitAt f b k t still) = valsF f := by
  unfold valsF
  rw [defs_split]; rfl
theorem phiOk_split {nb : Nat} {b : Int} {still : Bool} {p : PhiD} (h : phiOk nb p = true) : phiOk (nb + 1) (splitPhi b nb still p) = true := by
  unfold phiOk at h ⊢
  simp only [Bool.and_eq_true, List.all_eq_true, decide_eq_true_eq, beq_iff_eq] at h
  obtain ⟨⟨⟨h1, h2⟩, h3⟩, h4⟩ := h
  have hm : ∀ x ∈ p.src, numB (nb + 1) x = true := fun x hx => by
    have := h3 x hx
    unfold numB at this ⊢
    simp at this ⊢; omega
  have hno : (nb : Int) ∉ p.src := fun hx => by
    have := h3 _ hx
    unfold numB at this
    simp at this
  have hnb : numB (nb + 1) (nb : Int) = true := by unfold numB; simp; omega
  simp only [Bool.and_eq_true, List.all_eq_true, decide_eq_true_eq, beq_iff_eq]
  unfold splitPhi
  split
  · rename_i hb
    split
    · refine ⟨⟨⟨h1, by simp [h2]⟩, fun x hx => ?_⟩, ?_⟩
      · rcases List.mem_append.1 hx with hx | hx
        · exact hm x hx
        · rw [List.mem_singleton.1 hx]; exact hnb
      · rw [List.nodup_append]
        exact ⟨h4, by simp, fun a ha c hc e => by rw [List.mem_singleton] at hc; exact hno (by rw [← hc, ← e]; exact ha)⟩
    · refine ⟨⟨⟨h1, by simp [h2]⟩, fun x hx => ?_⟩, ?_⟩
      · rcases List.mem_or_eq_of_mem_set hx with hx | hx
        · exact hm x hx
        · rw [hx]; exact hnb
      · rw [List.nodup_iff_pairwise_ne, List.pairwise_iff_getElem]
        intro i j hi hj hij
        rw [List.getElem_set, List.getElem_set]
        have hi' : i < p.src.length := by simpa using hi
        have hj' : j < p.src.length := by simpa using hj
        split
        · split
          · omega
          · intro e; exact hno (e ▸ List.getElem_mem hj')
        · split
          · intro e; exact hno (e ▸ List.getElem_mem hi')
          · intro e
            rw [List.nodup_iff_pairwise_ne, List.pairwise_iff_getElem] at h4
            exact h4 i j hi' hj' hij e
  · exact ⟨⟨⟨h1, h2⟩, hm⟩, h4⟩
theorem usesP_split {b n : Int} {still : Bool} {p : PhiD} {nb : Nat} (h : phiOk nb p = true) : ∀ u ∈ usesP (splitPhi b n still p), u ∈ usesP p := by
  unfold phiOk at h
  simp only [Bool.and_eq_true, List.all_eq_true, decide_eq_true_eq, beq_iff_eq] at h
  obtain ⟨⟨⟨-, h2⟩, -⟩, -⟩ := h
  intro u hu
  unfold splitPhi at hu
  split at hu
  · rename_i hb
    split at hu
    · unfold usesP at hu ⊢
      simp only [List.map_append, List.mem_append, List.map_cons, List.map_nil, List.mem_singleton] at hu
      rcases hu with hu | hu
      · exact hu
      · rw [hu, List.mem_map]
        have hl : p.src.idxOf b < p.vals.length := by rw [← h2]; exact List.idxOf_lt_length_of_mem hb
        exact ⟨_, by rw [List.getD_eq_getElem?_getD, List.getElem?_eq_getElem hl]; exact List.getElem_mem hl, rfl⟩
    · exact hu
  · exact hu
theorem usesE_zero (T us : List (Int × Int)) : usesE T us = 0 ↔ ∀ u ∈ us, (tyOf T u.1).isSome = true ∧ useOdd T u = false := by
  unfold usesE
  constructor
  · intro h u hu
    split at h
    · cases h
    · split at h
      · cases h
      · rename_i h1 h2
        simp only [Bool.not_eq_true, List.any_eq_false] at h1 h2
        exact ⟨by simpa using h1 u hu, by simpa using h2 u hu⟩
  · intro h
    have h1 : us.any (fun u => !(tyOf T u.1).isSome) = false := by rw [List.any_eq_false]; intro u hu; simp [(h u hu).1]
    have h2 : us.any (useOdd T) = false := by rw [List.any_eq_false]; intro u hu; simp [(h u hu).2]
    rw [h1, h2]; simp
theorem check_zero {f : FuncD} : checkF f = 0 ↔ headOk f = true ∧ f.params.all parOk = true ∧ (∀ i x, f.blocks[i]? = some x → blockOk f.blocks.length f.arrays f.cells (x, i) = true) ∧ idsF f = true ∧ ∀ x ∈ f.blocks, ∀ u ∈ usesB x, (tyOf (valsF f) u.1).isSome = true ∧ useOdd (valsF f) u = false := by
  unfold checkF formB
  constructor
  · intro h
    split at h
    · rename_i h1
      simp only [Bool.and_eq_true] at h1
      refine ⟨h1.1.1.1, h1.1.1.2, fun i x hi => List.all_eq_true.1 h1.1.2 (x, i) (by rw [List.mem_zipIdx_iff_getElem?]; exact hi), h1.2, fun x hx u hu => (usesE_zero _ _).1 h u ?_⟩
      unfold usesF
      rw [List.mem_flatMap]
      exact ⟨x, hx, hu⟩
    · cases h
  · rintro ⟨h1, h2, h3, h4, h5⟩
    have h6 : f.blocks.zipIdx.all (blockOk f.blocks.length f.arrays f.cells) = true := by
      rw [List.all_eq_true]
      rintro ⟨x, i⟩ hx
      rw [List.mem_zipIdx_iff_getElem?] at hx
      exact h3 i x hx
    rw [h1, h2, h6, h4]
    simp only [Bool.and_self, if_true]
    rw [usesE_zero]
    intro u hu
    unfold usesF at hu
    rw [List.mem_flatMap] at hu
    obtain ⟨x, hx, hu⟩ := hu
    exact h5 x hx u hu
theorem blockOk_parts {nb : Nat} {ar ce : Int} {x : BlockD} {i : Nat} : blockOk nb ar ce (x, i) = true ↔ (i = 0 → x.phis = []) ∧ (∀ p ∈ x.phis, phiOk nb p = true) ∧ (x.code.all (instrOk ar ce)) = true ∧ endOk nb x.term = true := by
  unfold blockOk
  simp only [Bool.and_eq_true, List.all_eq_true, Bool.not_eq_true', Bool.and_eq_false_iff, decide_eq_false_iff_not]
  constructor
  · rintro ⟨⟨⟨h1, h2⟩, h3⟩, h4⟩
    refine ⟨fun hi => ?_, h2, h3, h4⟩
    rcases h1 with h1 | h1
    · exact absurd hi h1
    · exact List.eq_nil_of_length_eq_zero (by omega)
  · rintro ⟨h1, h2, h3, h4⟩
    refine ⟨⟨⟨?_, h2⟩, h3⟩, h4⟩
    by_cases hi : i = 0
    · right; rw [h1 hi]; simp
    · left; exact hi
theorem endOk_up {nb : Nat} {t : TermD} (h : endOk nb t = true) : endOk (nb + 1) t = true := by
  unfold endOk at h ⊢
  rw [Bool.and_eq_true] at h ⊢
  refine ⟨?_, h.2⟩
  rw [List.all_eq_true]
  intro b hb
  have := List.all_eq_true.1 h.1 b hb
  simp at this ⊢; omega
theorem endOk_set {nb : Nat} {t : TermD} {k : Nat} (h : endOk nb t = true) (h1 : 1 ≤ nb) : endOk (nb + 1) { t with to := t.to.set k nb } = true := by
  have h9 := endOk_up h
  unfold endOk at h9 ⊢
  rw [Bool.and_eq_true] at h9 ⊢
  simp only [List.length_set]
  refine ⟨?_, h9.2⟩
  rw [List.all_eq_true]
  intro b hb
  rcases List.mem_or_eq_of_mem_set hb with hb | hb
  · exact List.all_eq_true.1 h9.1 b hb
  · subst hb; simp; omega
theorem endOk_to {nb : Nat} {t : TermD} (h : endOk nb t = true) {k : Nat} {q : Int} (hk : t.to[k]? = some q) : 1 ≤ q ∧ q < nb := by
  unfold endOk at h
  rw [Bool.and_eq_true] at h
  have := List.all_eq_true.1 h.1 q (List.mem_of_getElem? hk)
  simpa using this
theorem phiOk_up {nb : Nat} {p : PhiD} (h : phiOk nb p = true) : phiOk (nb + 1) p = true := by
  unfold phiOk at h ⊢
  simp only [Bool.and_eq_true] at h ⊢
  refine ⟨⟨h.1.1, ?_⟩, h.2⟩
  rw [List.all_eq_true]
  intro b hb
  have := List.all_eq_true.1 h.1.2 b hb
  unfold numB at this ⊢
  simp at this ⊢; omega
theorem check_split {f : FuncD} (h : checkF f = 0) {b k t : Nat} {x : BlockD} (hb : f.blocks[b]? = some x) (hk : x.term.to[k]? = some (t : Int)) (hn : f.blocks.length < 512) (hs : sizeF f < 4096) (still : Bool) : checkF (splitAt f b k t still) = 0 := by
  obtain ⟨h1, h2, h3, h4, h5⟩ := check_zero.1 h
  rw [check_zero]
  have ht := endOk_to (blockOk_parts.1 (h3 b x hb)).2.2.2 hk
  refine ⟨?_, h2, fun i y' hy => ?_, ?_, fun y' hy' u hu => ?_⟩
  · unfold headOk at h1 ⊢
    rw [size_split, split_len]
    simp only [Bool.and_eq_true, decide_eq_true_eq] at h1 ⊢
    obtain ⟨⟨⟨⟨⟨⟨⟨k1, k2⟩, k3⟩, k4⟩, k5⟩, k6⟩, k7⟩, k8⟩ := h1
    exact ⟨⟨⟨⟨⟨⟨⟨k1, k2⟩, k3⟩, k4⟩, k5⟩, by omega⟩, by omega⟩, by omega⟩
  · rw [split_len]
    show blockOk (f.blocks.length + 1) f.arrays f.cells (y', i) = true
    rw [split_get] at hy
    split at hy
    · rename_i hi
      rw [Option.map_eq_some_iff] at hy
      obtain ⟨y, hy, rfl⟩ := hy
      obtain ⟨q1, q2, q3, q4⟩ := blockOk_parts.1 (h3 i y hy)
      have q5 : (if i = b then splitTo k f.blocks.length y else y).phis = y.phis ∧ (if i = b then splitTo k f.blocks.length y else y).code = y.code ∧ endOk (f.blocks.length + 1) (if i = b then splitTo k f.blocks.length y else y).term = true := by
        split
        · exact ⟨rfl, rfl, endOk_set q4 (by omega)⟩
        · exact ⟨rfl, rfl, endOk_up q4⟩
      obtain ⟨e1, e2, e3⟩ := q5
      generalize (if i = b then splitTo k f.blocks.length y else y) = z at *
      rw [blockOk_parts]
      split
      · refine ⟨fun hi0 => by omega, fun p hp => ?_, by show (z.code.all _) = true; rw [e2]; exact q3, e3⟩
        unfold splitIn at hp
        simp only [List.mem_map] at hp
        obtain ⟨p0, hp0, rfl⟩ := hp
        rw [e1] at hp0
        exact phiOk_split (q2 p0 hp0)
      · rw [e1, e2]
        exact ⟨q1, fun p hp => phiOk_up (q2 p hp), q3, e3⟩
    · split at hy
      · cases hy
        rw [blockOk_parts]
        refine ⟨fun _ => rfl, fun p hp => absurd hp (by simp [jumpB]), rfl, ?_⟩
        unfold endOk jumpB
        simp only [List.all_cons, List.all_nil, Bool.and_true, Bool.and_eq_true]
        refine ⟨by simp; omega, by simp⟩
      · cases hy
  · unfold idsF
    rw [defs_split]
    exact h4
  · rw [vals_split]
    obtain ⟨i, hi⟩ := List.getElem?_of_mem hy'
    rw [split_get] at hi
    split at hi
    · rw [Option.map_eq_some_iff] at hi
      obtain ⟨y, hy, rfl⟩ := hi
      refine h5 y (List.mem_of_getElem? hy) u ?_
      obtain ⟨q1, q2, q3, q4⟩ := blockOk_parts.1 (h3 i y hy)
      have q5 : (if i = b then splitTo k f.blocks.length y else y).phis = y.phis ∧ (if i = b then splitTo k f.blocks.length y else y).code = y.code ∧ usesT (if i = b then splitTo k f.blocks.length y else y).term = usesT y.term := by
        split
        · exact ⟨rfl, rfl, rfl⟩
        · exact ⟨rfl, rfl, rfl⟩
      obtain ⟨e1, e2, e3⟩ := q5
      generalize (if i = b then splitTo k f.blocks.length y else y) = z at *
      split at hu
      · unfold usesB splitIn at hu
        simp only at hu
        rw [e1, e2, e3] at hu
        unfold usesB
        simp only [List.mem_append] at hu ⊢
        rcases hu with (hu | hu) | hu
        · refine .inl (.inl ?_)
          rw [List.mem_flatMap] at hu ⊢
          obtain ⟨p', hp', hu⟩ := hu
          rw [List.mem_map] at hp'
          obtain ⟨p, hp, rfl⟩ := hp'
          exact ⟨p, hp, usesP_split (q2 p hp) u hu⟩
        · exact .inl (.inr hu)
        · exact .inr hu
      · unfold usesB at hu ⊢
        rw [e1, e2, e3] at hu
        exact hu
    · split at hi
      · cases hi
        simp [usesB, jumpB, usesT] at hu
      · cases hi
end Go.Proofs.Ytefpmjnimnmniaa
namespace Go.Proofs.Ytefpmjnimnmniaa
set_option linter.unusedSimpArgs false
set_option linter.unusedVariables false
open Go.RowKit
def zeroF : FuncD := ⟨[], 0, 0, []⟩
def stillB (f : FuncD) (b k : Nat) (t : Int) : Bool := ((f.blocks.getD b default).term.to.set k (f.blocks.length : Int)).contains t
def splitF (f : FuncD) (b k : Int) : FuncD × Int :=
  if checkF f ≠ 0 then (zeroF, checkF f) else
  if ¬ (0 ≤ b ∧ b < f.blocks.length ∧ 0 ≤ k ∧ k < (f.blocks.getD b.toNat default).term.to.length) then (zeroF, 9) else
  if f.blocks.length = 512 ∨ sizeF f = 4096 then (zeroF, 2) else
  (splitAt f b.toNat k.toNat ((f.blocks.getD b.toNat default).term.to.getD k.toNat 0).toNat (stillB f b.toNat k.toNat ((f.blocks.getD b.toNat default).term.to.getD k.toNat 0)), 0)
theorem splitF_bad {f : FuncD} {b k : Int} (h : checkF f ≠ 0) : splitF f b k = (zeroF, checkF f) := by unfold splitF; rw [if_pos h]
theorem splitF_none {f : FuncD} {b k : Int} (h : checkF f = 0) (h2 : b < 0 ∨ (f.blocks.length : Int) ≤ b ∨ k < 0 ∨ ∃ x, f.blocks[b.toNat]? = some x ∧ (x.term.to.length : Int) ≤ k) : splitF f b k = (zeroF, 9) := by
  unfold splitF
  rw [if_neg (by simp [h]), if_pos]
  rintro ⟨q1, q2, q3, q4⟩
  rcases h2 with h2 | h2 | h2 | ⟨x, hx, h2⟩
  · omega
  · omega
  · omega
  · rw [List.getD_eq_getElem?_getD, hx] at q4
    simp only [Option.getD_some] at q4
    omega
theorem getD_some {α : Type} {l : List α} {i : Nat} {x d : α} (h : l[i]? = some x) : l.getD i d = x := by rw [List.getD_eq_getElem?_getD, h]; rfl
theorem splitF_full {f : FuncD} {b k : Nat} {x : BlockD} (h : checkF f = 0) (hx : f.blocks[b]? = some x) (hk : k < x.term.to.length) (h2 : f.blocks.length = 512 ∨ sizeF f = 4096) : splitF f b k = (zeroF, 2) := by
  have hl := (List.getElem?_eq_some_iff.1 hx).1
  unfold splitF
  rw [if_neg (by simp [h]), if_neg, if_pos h2]
  rw [Int.toNat_natCast, getD_some hx]
  intro hc
  exact hc ⟨by omega, by omega, by omega, by omega⟩
theorem splitF_ok {f : FuncD} {b k : Nat} {x : BlockD} {t : Nat} (h : checkF f = 0) (hx : f.blocks[b]? = some x) (hk : x.term.to[k]? = some (t : Int)) (h2 : f.blocks.length ≠ 512) (h3 : sizeF f ≠ 4096) :
    splitF f b k = (splitAt f b k t ((x.term.to.set k (f.blocks.length : Int)).contains (t : Int)), 0) := by
  have hl := (List.getElem?_eq_some_iff.1 hx).1
  have hkl := (List.getElem?_eq_some_iff.1 hk).1
  unfold splitF stillB
  rw [Int.toNat_natCast, Int.toNat_natCast, getD_some hx, getD_some hk, Int.toNat_natCast, if_neg (by simp [h]), if_neg, if_neg (by omega)]
  intro hc
  exact hc ⟨by omega, by omega, by omega, by omega⟩
theorem modify_set {α : Type} {l : List α} {i : Nat} {x : α} (g : α → α) (h : l[i]? = some x) : l.modify i g = l.set i (g x) := by
  apply List.ext_getElem?
  intro j
  rw [List.getElem?_modify, List.getElem?_set]
  by_cases e : i = j
  · subst e
    have := (List.getElem?_eq_some_iff.1 h).1
    rw [h, if_pos rfl, if_pos this]; simp
  · simp [e]
theorem splitAt_set {f : FuncD} {b k t : Nat} {x y : BlockD} (hx : f.blocks[b]? = some x) (hy : (f.blocks.set b (splitTo k f.blocks.length x))[t]? = some y) (still : Bool) :
    (splitAt f b k t still).blocks = (f.blocks.set b (splitTo k f.blocks.length x)).set t (splitIn b f.blocks.length still y) ++ [jumpB t] := by
  unfold splitAt
  simp only
  rw [modify_set _ hx, modify_set _ hy]
def upTo {α : Type} (g : α → α) (l : List α) (i : Nat) : List α := (l.take i).map g ++ l.drop i
theorem upTo_zero {α : Type} (g : α → α) (l : List α) : upTo g l 0 = l := by simp [upTo]
theorem upTo_all {α : Type} (g : α → α) (l : List α) : upTo g l l.length = l.map g := by simp [upTo]
theorem upTo_len {α : Type} (g : α → α) (l : List α) (i : Nat) : (upTo g l i).length = l.length := by simp [upTo]; omega
theorem upTo_at {α : Type} {g : α → α} {l : List α} {i : Nat} {x : α} (h : l[i]? = some x) : (upTo g l i)[i]? = some x ∧ (upTo g l i).set i (g x) = upTo g l (i + 1) := by
  have hl := (List.getElem?_eq_some_iff.1 h).1
  have ht : ((l.take i).map g).length = i := by rw [List.length_map, List.length_take]; omega
  have hd : l.drop i = x :: l.drop (i + 1) := by rw [← (List.getElem?_eq_some_iff.1 h).2]; exact List.drop_eq_getElem_cons hl
  unfold upTo
  constructor
  · rw [List.getElem?_append_right (by omega), ht, Nat.sub_self, hd]; rfl
  · rw [List.set_append_right _ _ (by omega), ht, Nat.sub_self, hd, List.set_cons_zero, List.take_add_one, h, Option.toList_some, List.map_append, List.append_assoc]; rfl
end Go.Proofs.Ytefpmjnimnmniaa
namespace Go.Proofs.Ytefpmjnimnmniaa
set_option linter.unusedSimpArgs false
set_option linter.unusedVariables false
open Go.RowKit
structure UseD where
  id : Int
  typ : Int
  blk : Int
  pos : Int
  src : Int
  deriving DecidableEq, Inhabited
def uxP (i : Nat) (p : PhiD) : List UseD := (p.vals.zip p.src).map fun vs => ⟨vs.1, p.typ, i, -1, vs.2⟩
def uxI (i : Nat) (xk : InstrD × Nat) : List UseD := (xk.1.args.zip (shp0 xk.1.op).args).map fun at_ => ⟨at_.1, at_.2, i, xk.2, 0⟩
def uxT (i : Nat) (b : BlockD) : List UseD := if b.term.op = 2 then [⟨b.term.val, 2, i, b.code.length, 0⟩] else if b.term.op = 3 then [⟨b.term.val, 0, i, b.code.length, 0⟩] else []
def uxB (bi : BlockD × Nat) : List UseD := bi.1.phis.flatMap (uxP bi.2) ++ bi.1.code.zipIdx.flatMap (uxI bi.2) ++ uxT bi.2 bi.1
def uxF (f : FuncD) : List UseD := f.blocks.zipIdx.flatMap uxB
structure Even (f : FuncD) : Prop where
  phi : ∀ b ∈ f.blocks, ∀ p ∈ b.phis, p.src.length = p.vals.length ∧ p.vals.length ≤ 512
  args : ∀ b ∈ f.blocks, ∀ x ∈ b.code, x.args.length = (shp0 x.op).args.length
  size : sizeF f ≤ 4096
  len : f.blocks.length ≤ 512
theorem holes (n : Nat) : ∀ l : List Int, l.Nodup → (∀ x ∈ l, 0 ≤ x ∧ x < (n : Int)) → l.length ≤ n := by
  induction n with
  | zero =>
    intro l _ h
    cases l with
    | nil => simp
    | cons x l => have := h x (by simp); omega
  | succ n ih =>
    intro l hnd h
    by_cases hm : (n : Int) ∈ l
    · have h1 := ih (l.erase (n : Int)) (hnd.erase _) (fun x hx => by
        have h2 := (hnd.mem_erase_iff).1 hx
        have h3 := h x h2.2
        have h4 := h2.1
        omega)
      rw [List.length_erase_of_mem hm] at h1
      omega
    · have h1 := ih l hnd (fun x hx => by
        have h3 := h x hx
        have h4 : x ≠ n := fun e => hm (e ▸ hx)
        omega)
      omega
theorem even_of {f : FuncD} (h : formB f = true) : Even f := by
  have h0 := h
  unfold formB headOk at h0
  simp only [Bool.and_eq_true, decide_eq_true_eq, List.all_eq_true] at h0
  have hblk : ∀ b ∈ f.blocks, ∃ j, blockOk f.blocks.length f.arrays f.cells (b, j) = true := fun b hb => by
    obtain ⟨j, hj, rfl⟩ := List.getElem_of_mem hb
    exact ⟨j, h0.2 (f.blocks[j], j) (by rw [List.mem_iff_getElem?]; exact ⟨j, by simp [hj]⟩)⟩
  refine ⟨fun b hb p hp => ?_, fun b hb x hx => ?_, h0.1.1.2, h0.1.1.1.2⟩
  · obtain ⟨j, h1⟩ := hblk b hb
    unfold blockOk at h1
    simp only [Bool.and_eq_true, List.all_eq_true] at h1
    have h2 := h1.1.1.2 p hp
    unfold phiOk at h2
    simp only [Bool.and_eq_true, beq_iff_eq, List.all_eq_true, decide_eq_true_eq] at h2
    refine ⟨h2.1.1.2, ?_⟩
    have h3 := holes f.blocks.length p.src h2.2 (fun x hx => by have := h2.1.2 x hx; unfold numB at this; simpa using this)
    have h4 := h0.1.1.1.2
    have h5 := h2.1.1.2
    omega
  · obtain ⟨j, h1⟩ := hblk b hb
    unfold blockOk at h1
    simp only [Bool.and_eq_true, List.all_eq_true] at h1
    have h2 := h1.1.2 x hx
    unfold instrOk at h2
    simp only [Bool.and_eq_true, beq_iff_eq] at h2
    exact h2.1.1.2
def UseD.pair (u : UseD) : Int × Int := (u.id, u.typ)
theorem ux_pairs {f : FuncD} (he : Even f) : (uxF f).map UseD.pair = usesF f := by
  have hB : ∀ b ∈ f.blocks, ∀ j, (uxB (b, j)).map UseD.pair = usesB b := by
    intro b hb j
    unfold uxB usesB
    rw [List.map_append, List.map_append]
    congr 1
    · congr 1
      · simp only
        rw [List.map_flatMap]
        have : ∀ l : List PhiD, (∀ p ∈ l, p.src.length = p.vals.length) → l.flatMap (fun p => (uxP j p).map UseD.pair) = l.flatMap usesP := by
          intro l
          induction l with
          | nil => intro _; rfl
          | cons p l ih =>
            intro h
            rw [List.flatMap_cons, List.flatMap_cons, ih fun q hq => h q (by simp [hq])]
            congr 1
            unfold uxP usesP
            rw [List.map_map]
            have h1 := h p (by simp)
            have h2 : (p.vals.zip p.src).map Prod.fst = p.vals := List.map_fst_zip (by omega)
            have h3 : (p.vals.zip p.src).map (UseD.pair ∘ fun vs => ⟨vs.1, p.typ, j, -1, vs.2⟩) = ((p.vals.zip p.src).map Prod.fst).map fun v => (v, p.typ) := by rw [List.map_map]; rfl
            rw [h3, h2]
        exact this b.phis fun p hp => (he.phi b hb p hp).1
      · simp only
        rw [List.map_flatMap]
        have : ∀ l : List (InstrD × Nat), l.flatMap (fun x => (uxI j x).map UseD.pair) = (l.map (·.1)).flatMap usesI := by
          intro l
          induction l with
          | nil => rfl
          | cons x l ih =>
            rw [List.flatMap_cons, List.map_cons, List.flatMap_cons, ih]
            congr 1
            unfold uxI usesI
            rw [List.map_map]
            have : (UseD.pair ∘ fun at_ : Int × Int => (⟨at_.1, at_.2, j, x.2, 0⟩ : UseD)) = id := rfl
            rw [this, List.map_id]
        rw [this, List.zipIdx_map_fst]
    · unfold uxT usesT
      simp only
      split
      · rfl
      · split <;> rfl
  unfold uxF usesF
  rw [List.map_flatMap]
  have : ∀ l : List (BlockD × Nat), (∀ x ∈ l, x.1 ∈ f.blocks) → l.flatMap (fun x => (uxB x).map UseD.pair) = (l.map (·.1)).flatMap usesB := by
    intro l
    induction l with
    | nil => intro _; rfl
    | cons x l ih =>
      intro h
      rw [List.flatMap_cons, List.map_cons, List.flatMap_cons, ih fun y hy => h y (by simp [hy])]
      congr 1
      exact hB x.1 (h x (by simp)) x.2
  rw [this _ (fun x hx => by obtain ⟨i, hi, rfl⟩ := List.getElem_of_mem hx; simp), List.zipIdx_map_fst]
end Go.Proofs.Ytefpmjnimnmniaa
namespace Go.Proofs.Ytefpmjnimnmniaa
set_option linter.unusedSimpArgs false
set_option linter.unusedVariables false
open Go.RowKit
def Rise (L : List Int) : Prop := L.Pairwise (· < ·)
end Go.Proofs.Ytefpmjnimnmniaa
