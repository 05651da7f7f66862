/- Values put in order, in plain lists. -/
import Derived.Test.YtefpmjnimnmniaaRefI11
namespace Go.Proofs.Ytefpmjnimnmniaa
set_option linter.unusedSimpArgs false
set_option linter.unusedVariables false
open Go.RowKit

def insAt (S : List Int) (k : Nat) (x : Int) : List Int := S.take k ++ x :: S.drop k
theorem insAt_length (S : List Int) (k : Nat) (x : Int) (h : k ≤ S.length) : (insAt S k x).length = S.length + 1 := by
  unfold insAt; rw [List.length_append, List.length_take, List.length_cons, List.length_drop]; omega
theorem insAt_end (S : List Int) (x : Int) : insAt S S.length x = S ++ [x] := by unfold insAt; simp
theorem insAt_set (S : List Int) (k : Nat) (y x : Int) (h : k ≤ S.length) : (insAt S k y).set k x = insAt S k x := by
  unfold insAt
  rw [List.set_append_right _ _ (by rw [List.length_take]; omega)]
  congr 1
  rw [List.length_take, Nat.min_eq_left h, Nat.sub_self]; rfl
theorem insAt_shift (S : List Int) (k : Nat) (y z : Int) (hz : S[k]? = some z) : (insAt S (k + 1) y).set (k + 1) z = insAt S k z := by
  have hk := (List.getElem?_eq_some_iff.1 hz).1
  rw [insAt_set _ _ _ _ (by omega)]
  unfold insAt
  have h1 : S.take (k + 1) = S.take k ++ [z] := take_snoc S k z hz
  have h2 : S.drop k = z :: S.drop (k + 1) := by
    obtain ⟨_, rfl⟩ := List.getElem?_eq_some_iff.1 hz
    exact List.drop_eq_getElem_cons hk
  rw [h1, h2]; simp
theorem insAt_low (S : List Int) (k i : Nat) (y z : Int) (hi : i < k) (hz : S[i]? = some z) : (insAt S k y)[i]? = some z := by
  have := (List.getElem?_eq_some_iff.1 hz).1
  unfold insAt
  rw [List.getElem?_append_left (by rw [List.length_take]; omega), List.getElem?_take, if_pos hi]
  exact hz
theorem insAt_mem (S : List Int) (k : Nat) (x y : Int) : y ∈ insAt S k x ↔ y = x ∨ y ∈ S := by
  unfold insAt
  rw [List.mem_append, List.mem_cons]
  have h := List.take_append_drop k S
  constructor
  · rintro (h1 | h1 | h1)
    · exact .inr (List.mem_of_mem_take h1)
    · exact .inl h1
    · exact .inr (List.mem_of_mem_drop h1)
  · rintro (h1 | h1)
    · exact .inr (.inl h1)
    · rw [← h, List.mem_append] at h1
      rcases h1 with h1 | h1
      · exact .inl h1
      · exact .inr (.inr h1)
theorem insAt_rise {S : List Int} {k : Nat} {x : Int} (hS : Rise S) (hlo : ∀ j y, j < k → S[j]? = some y → y < x) (hhi : ∀ j y, k ≤ j → S[j]? = some y → x < y) : Rise (insAt S k x) := by
  unfold insAt Rise
  have h1 : (S.take k).Pairwise (· < ·) := List.Pairwise.sublist (List.take_sublist _ _) hS
  have h2 : (S.drop k).Pairwise (· < ·) := List.Pairwise.sublist (List.drop_sublist _ _) hS
  rw [List.pairwise_append, List.pairwise_cons]
  have g1 : ∀ y ∈ S.take k, y < x := fun y hy => by
    obtain ⟨j, hj⟩ := List.mem_iff_getElem?.1 hy
    rw [List.getElem?_take] at hj
    split at hj
    · rename_i h; exact hlo j y h hj
    · cases hj
  have g2 : ∀ y ∈ S.drop k, x < y := fun y hy => by
    obtain ⟨j, hj⟩ := List.mem_iff_getElem?.1 hy
    rw [List.getElem?_drop] at hj
    exact hhi (k + j) y (by omega) hj
  refine ⟨h1, ⟨g2, h2⟩, fun a ha b hb => ?_⟩
  rcases List.mem_cons.1 hb with rfl | hb
  · exact g1 a ha
  · have := g1 a ha; have := g2 b hb; omega

/-- The first i values are good, and S holds them in order. -/
structure IdsS (np : Nat) (T : List (Int × Int)) (i : Nat) (S : List Int) : Prop where
  rise : Rise S
  len : S.length = i
  mem : ∀ y, y ∈ S ↔ y ∈ (T.take i).map (·.1)
  ok : ∀ j p, T[j]? = some p → j < i → np ≤ j → (np : Int) ≤ p.1 ∧ p.1 < 1048576
  nodup : ((T.take i).map (·.1)).Nodup
theorem IdsS.start (np : Nat) (T : List (Int × Int)) : IdsS np T 0 [] := ⟨List.Pairwise.nil, rfl, fun y => by simp, fun j p _ h => by omega, by simp⟩
theorem IdsS.step {np : Nat} {T : List (Int × Int)} {i : Nat} {S : List Int} (h : IdsS np T i S) {p : Int × Int} (hp : T[i]? = some p) (hok : np ≤ i → (np : Int) ≤ p.1 ∧ p.1 < 1048576) {k : Nat} (hk : k ≤ S.length)
    (hlo : ∀ j y, j < k → S[j]? = some y → y < p.1) (hhi : ∀ j y, k ≤ j → S[j]? = some y → p.1 < y) : IdsS np T (i + 1) (insAt S k p.1) := by
  have ht : (T.take (i + 1)).map (·.1) = (T.take i).map (·.1) ++ [p.1] := by rw [take_snoc T i p hp, List.map_append]; rfl
  have hno : p.1 ∉ S := fun hm => by
    obtain ⟨j, hj⟩ := List.mem_iff_getElem?.1 hm
    by_cases hjk : j < k
    · have := hlo j _ hjk hj; omega
    · have := hhi j _ (by omega) hj; omega
  refine ⟨insAt_rise h.rise hlo hhi, by rw [insAt_length _ _ _ hk, h.len], fun y => ?_, fun j q hq hj hn => ?_, ?_⟩
  · rw [insAt_mem, ht, List.mem_append, List.mem_singleton, h.mem y]; exact or_comm
  · by_cases e : j = i
    · subst e; rw [hp] at hq; cases hq; exact hok hn
    · exact h.ok j q hq (by omega) hn
  · rw [ht, List.nodup_append]
    refine ⟨h.nodup, by simp, fun a ha b hb e => ?_⟩
    simp at hb
    subst hb
    subst e
    exact hno ((h.mem _).2 ha)
theorem parT_length (ps : List Int) : (parT ps).length = ps.length := by unfold parT; simp
theorem valsF_par {f : FuncD} {j : Nat} (hj : j < f.params.length) : ∃ t, (valsF f)[j]? = some ((j : Int), t) := by
  refine ⟨f.params.getD j 0, ?_⟩
  unfold valsF
  rw [List.getElem?_append_left (by rw [parT_length]; exact hj)]
  unfold parT
  rw [List.getElem?_map, List.getElem?_zipIdx, list_at f.params j hj]
  simp
theorem valsF_def {f : FuncD} {j : Nat} (hj : f.params.length ≤ j) : (valsF f)[j]? = (defsF f)[j - f.params.length]? := by
  unfold valsF
  rw [List.getElem?_append_right (by rw [parT_length]; exact hj), parT_length]
/-- All values are good: so the program finds too. -/
theorem IdsS.done {f : FuncD} {S : List Int} (h : IdsS f.params.length (valsF f) (valsF f).length S) : idsF f = true := by
  unfold idsF idsB
  rw [Bool.and_eq_true, decide_eq_true_eq, List.all_eq_true]
  refine ⟨by have := h.nodup; rwa [List.take_length] at this, fun p hp => ?_⟩
  obtain ⟨j, hj⟩ := List.mem_iff_getElem?.1 hp
  have h1 : (valsF f)[f.params.length + j]? = some p := by rw [valsF_def (by omega)]; rw [show f.params.length + j - f.params.length = j by omega]; exact hj
  have h2 := h.ok (f.params.length + j) p h1 (List.getElem?_eq_some_iff.1 h1).1 (by omega)
  simp; omega
theorem IdsS.in64 {f : FuncD} {S : List Int} (h : IdsS f.params.length (valsF f) (valsF f).length S) (hn : f.params.length ≤ 4611686018427387904) : ∀ y ∈ S, In64 y := by
  intro y hy
  have h1 := (h.mem y).1 hy
  rw [List.take_length] at h1
  obtain ⟨p, hp, rfl⟩ := List.mem_map.1 h1
  obtain ⟨j, hj⟩ := List.mem_iff_getElem?.1 hp
  by_cases hjp : j < f.params.length
  · obtain ⟨t, ht⟩ := valsF_par hjp
    rw [hj] at ht; cases ht
    exact ⟨by simp only; omega, by simp only; omega⟩
  · have h2 := h.ok j p hj (List.getElem?_eq_some_iff.1 hj).1 (by omega)
    exact ⟨by omega, by omega⟩
/-- A value that is out of range, or that stands twice: so the program refuses too. -/
theorem ids_range {f : FuncD} {i : Nat} {p : Int × Int} (hp : (valsF f)[i]? = some p) (hi : f.params.length ≤ i) (hbad : ¬ ((f.params.length : Int) ≤ p.1 ∧ p.1 < 1048576)) : idsF f = false := by
  unfold idsF idsB
  rw [Bool.and_eq_false_iff]
  right
  rw [List.all_eq_false]
  refine ⟨p, List.mem_of_getElem? (by rw [← valsF_def hi]; exact hp), ?_⟩
  simp; omega
theorem ids_twice {f : FuncD} {i : Nat} {S : List Int} (h : IdsS f.params.length (valsF f) i S) {p : Int × Int} (hp : (valsF f)[i]? = some p) (hm : p.1 ∈ S) : idsF f = false := by
  unfold idsF idsB
  rw [Bool.and_eq_false_iff]
  left
  rw [decide_eq_false_iff_not]
  intro hnd
  have h1 : ((valsF f).take (i + 1)).map (·.1) = ((valsF f).take i).map (·.1) ++ [p.1] := by rw [take_snoc _ i p hp, List.map_append]; rfl
  have h2 : (((valsF f).take (i + 1)).map (·.1)).Nodup := List.Nodup.sublist (List.Sublist.map _ (List.take_sublist _ _)) hnd
  rw [h1, List.nodup_append] at h2
  exact h2.2.2 p.1 ((h.mem _).1 hm) p.1 (by simp) rfl
theorem cellsP_at (T : List (Int × Int)) (i : Nat) (p : Int × Int) (h : T[i]? = some p) : (cellsP T)[i * 2]? = some (.int .i64 p.1) ∧ (cellsP T)[i * 2 + 1]? = some (.int .i64 p.2) := by
  unfold cellsP
  induction T generalizing i with
  | nil => cases h
  | cons q T ih =>
    cases i with
    | zero => simp at h; subst h; simp
    | succ i =>
      simp at h
      obtain ⟨h1, h2⟩ := ih i h
      rw [List.flatMap_cons, show (i + 1) * 2 = i * 2 + 2 by omega, show i * 2 + 2 + 1 = (i * 2 + 1) + 2 by omega]
      simp only [List.cons_append, List.nil_append, List.getElem?_cons_succ]
      exact ⟨h1, h2⟩
theorem cellsU_at (T : List UseD) (i : Nat) (u : UseD) (h : T[i]? = some u) : (cellsU T)[i * 5]? = some (.int .i64 u.id) ∧ (cellsU T)[i * 5 + 1]? = some (.int .i64 u.typ) ∧ (cellsU T)[i * 5 + 2]? = some (.int .i64 u.blk) ∧ (cellsU T)[i * 5 + 3]? = some (.int .i64 u.pos) ∧ (cellsU T)[i * 5 + 4]? = some (.int .i64 u.src) := by
  unfold cellsU
  induction T generalizing i with
  | nil => cases h
  | cons q T ih =>
    cases i with
    | zero => simp at h; subst h; simp
    | succ i =>
      simp at h
      obtain ⟨h1, h2, h3, h4, h5⟩ := ih i h
      rw [List.flatMap_cons, show (i + 1) * 5 = i * 5 + 5 by omega, show i * 5 + 5 + 1 = (i * 5 + 1) + 5 by omega, show i * 5 + 5 + 2 = (i * 5 + 2) + 5 by omega, show i * 5 + 5 + 3 = (i * 5 + 3) + 5 by omega, show i * 5 + 5 + 4 = (i * 5 + 4) + 5 by omega]
      simp only [List.cons_append, List.nil_append, List.getElem?_cons_succ]
      exact ⟨h1, h2, h3, h4, h5⟩
/-- A row that the call owns, as a box. -/
theorem own_box {W : World} {base : Nat} {e : TypeId} {size : Nat} {v : Value} {n : Nat} {cs : List Value} (h : W.ownsRow base e size v n cs) (hp : 0 < n) : ∃ g cap A, v = .slice (some ⟨g, 0, none⟩) n cap ∧ base ≤ g ∧ n ≤ cap ∧ cap ≤ 9223372036854775807 ∧ Box W g A ∧ ∀ (i : Nat) (x : Value), cs[i]? = some x → A[i]? = some x := by
  rcases h.2 with ⟨_, h2⟩ | ⟨g, cap, cur, hv, hb, hh, h1, h2, h3, h4⟩
  · omega
  · refine ⟨g, cap, cur, hv, hb, h1, by unfold maxLen at h2; omega, ⟨(Array.getElem?_eq_some_iff.1 hh).1, fun o => ?_, fun o => ?_⟩, fun j x hj => ?_⟩
    · simp only [World.cell?, hh]; simp
    · simp only [World.frozen?, hh]; simp
    · rw [← h4, List.getElem?_take] at hj
      split at hj
      · simpa using hj
      · cases hj
theorem own_nil {W : World} {base : Nat} {e : TypeId} {size : Nat} {v : Value} {n : Nat} {cs : List Value} (h : W.ownsRow base e size v n cs) : ∃ a c, v = .slice a n c := by
  rcases h.2 with ⟨rfl, rfl⟩ | ⟨g, cap, cur, rfl, _⟩
  · exact ⟨_, _, rfl⟩
  · exact ⟨_, _, rfl⟩
end Go.Proofs.Ytefpmjnimnmniaa
