/- Where each block's dominance ends: the plain part. -/
import Derived.Test.YtefpmjnimnmniaaDB
namespace Go.Proofs.Ytefpmjnimnmniaa
set_option linter.unusedSimpArgs false
set_option linter.unusedVariables false
open Go.RowKit

/-- b is in a's frontier. -/
def FrontP (f : FuncD) (a b : Nat) : Prop := ∃ p, Way (toB f) (-1) p ∧ b ∈ toB f p ∧ OverP f a p ∧ (a = b ∨ ¬ OverP f a b)
theorem asc_len {n : Nat} : ∀ (l : List Nat) (k : Nat), l.Pairwise (· < ·) → (∀ c ∈ l, k ≤ c ∧ c < n) → l = [] ∨ l.length + k ≤ n
  | [], _, _, _ => .inl rfl
  | x :: r, k, hp, hl => by
    rw [List.pairwise_cons] at hp
    obtain ⟨h1, h2⟩ := hl x (by simp)
    rcases asc_len r (x + 1) hp.2 (fun c hc => ⟨hp.1 c hc, (hl c (by simp [hc])).2⟩) with e | h
    · subst e; right; simp; omega
    · right; simp; omega
theorem asc_le {n : Nat} {l : List Nat} (h : l.Pairwise (· < ·)) (hl : ∀ c ∈ l, c < n) : l.length ≤ n := by
  rcases asc_len l 0 h (fun c hc => ⟨Nat.zero_le _, hl c hc⟩) with e | h
  · subst e; simp
  · omega
theorem asc_eq : ∀ {l m : List Nat}, l.Pairwise (· < ·) → m.Pairwise (· < ·) → (∀ x, x ∈ l ↔ x ∈ m) → l = m
  | [], [], _, _, _ => rfl
  | [], y :: r, _, _, h => by have := (h y).2 (by simp); cases this
  | x :: r, [], _, _, h => by have := (h x).1 (by simp); cases this
  | x :: r, y :: s, hl, hm, h => by
    rw [List.pairwise_cons] at hl hm
    have e : x = y := by
      rcases List.mem_cons.1 ((h x).1 (by simp)) with e | e
      · exact e
      · rcases List.mem_cons.1 ((h y).2 (by simp)) with e2 | e2
        · exact e2.symm
        · have := hm.1 x e; have := hl.1 y e2; omega
    subst e
    rw [asc_eq hl.2 hm.2 (fun z => by
      have h1 := h z
      simp only [List.mem_cons] at h1
      constructor
      · intro hz
        rcases h1.1 (.inr hz) with e | e
        · have := hl.1 z hz; omega
        · exact e
      · intro hz
        rcases h1.2 (.inr hz) with e | e
        · have := hm.1 z hz; omega
        · exact e)]
/-- The rows, while block b is looked at. -/
def FrSt (f : FuncD) (b : Nat) (P : Nat → Prop) (L : List (List Nat)) : Prop :=
  L.length = f.blocks.length ∧ ∀ (a : Nat) (l : List Nat), L[a]? = some l → l.Pairwise (· < ·) ∧ (∀ c ∈ l, c ≤ b) ∧ (∀ c, c < b → (c ∈ l ↔ FrontP f a c)) ∧ (b ∈ l ↔ P a)
def FrDone (f : FuncD) (L : List (List Nat)) : Prop :=
  L.length = f.blocks.length ∧ ∀ (a : Nat) (l : List Nat), L[a]? = some l → l.Pairwise (· < ·) ∧ ∀ c, c ∈ l ↔ c < f.blocks.length ∧ FrontP f a c
theorem FrSt.start (f : FuncD) : FrSt f 0 (fun _ => False) (List.replicate f.blocks.length []) :=
  ⟨by simp, fun a l h => by
    have := List.eq_of_mem_replicate (List.mem_of_getElem? h)
    subst this
    exact ⟨.nil, by simp, fun c hc => by omega, by simp⟩⟩
theorem FrSt.iff {f : FuncD} {b : Nat} {P Q : Nat → Prop} {L : List (List Nat)} (h : FrSt f b P L) (hq : ∀ a, P a ↔ Q a) : FrSt f b Q L :=
  ⟨h.1, fun a l ha => by obtain ⟨h1, h2, h3, h4⟩ := h.2 a l ha; exact ⟨h1, h2, h3, h4.trans (hq a)⟩⟩
theorem FrSt.next {f : FuncD} {b : Nat} {P : Nat → Prop} {L : List (List Nat)} (h : FrSt f b P L) (hq : ∀ a, P a ↔ FrontP f a b) : FrSt f (b + 1) (fun _ => False) L :=
  ⟨h.1, fun a l ha => by
    obtain ⟨h1, h2, h3, h4⟩ := h.2 a l ha
    refine ⟨h1, fun c hc => by have := h2 c hc; omega, fun c hc => ?_, ⟨fun hm => by have := h2 _ hm; omega, fun hm => hm.elim⟩⟩
    by_cases e : c = b
    · subst e; exact h4.trans (hq a)
    · exact h3 c (by omega)⟩
theorem FrSt.old {f : FuncD} {b m : Nat} {P : Nat → Prop} {L : List (List Nat)} {l : List Nat} (h : FrSt f b P L) (hm : L[m]? = some l) (hb : b ∈ l) : FrSt f b (fun a => P a ∨ a = m) L :=
  h.iff fun a => ⟨.inl, fun ha => ha.elim id fun e => by subst e; exact (h.2 a l hm).2.2.2.1 hb⟩
theorem FrSt.add {f : FuncD} {b m : Nat} {P : Nat → Prop} {L : List (List Nat)} {l : List Nat} (h : FrSt f b P L) (hm : L[m]? = some l) (hb : b ∉ l) : FrSt f b (fun a => P a ∨ a = m) (L.set m (l ++ [b])) := by
  refine ⟨by rw [List.length_set]; exact h.1, fun a k ha => ?_⟩
  rw [List.getElem?_set] at ha
  split at ha
  · rename_i e
    subst e
    have hl := (List.getElem?_eq_some_iff.1 hm).1
    rw [if_pos hl] at ha
    cases ha
    obtain ⟨h1, h2, h3, h4⟩ := h.2 m l hm
    refine ⟨?_, ?_, ?_, ?_⟩
    · rw [List.pairwise_append]
      refine ⟨h1, by simp, fun x hx y hy => ?_⟩
      simp at hy
      subst hy
      have := h2 x hx
      have : x ≠ y := fun e => hb (e ▸ hx)
      omega
    · intro c hc
      rcases List.mem_append.1 hc with hc | hc
      · exact h2 c hc
      · simp at hc; omega
    · intro c hc
      rw [List.mem_append]
      have : c ≠ b := by omega
      simp [this, h3 c hc]
    · simp
  · rename_i e
    obtain ⟨h1, h2, h3, h4⟩ := h.2 a k ha
    exact ⟨h1, h2, h3, h4.trans ⟨.inl, fun h => h.elim id fun e2 => absurd e2.symm e⟩⟩
theorem FrSt.done {f : FuncD} {P : Nat → Prop} {L : List (List Nat)} (h : FrSt f f.blocks.length (fun _ => False) L) : FrDone f L :=
  ⟨h.1, fun a l ha => by
    obtain ⟨h1, h2, h3, h4⟩ := h.2 a l ha
    refine ⟨h1, fun c => ⟨fun hc => ?_, fun hc => (h3 c hc.1).2 hc.2⟩⟩
    have h5 : c < f.blocks.length := by
      rcases Nat.lt_or_ge c f.blocks.length with h | h
      · exact h
      · have : c = f.blocks.length := by have := h2 c hc; omega
        subst this
        exact (h4.1 hc).elim
    exact ⟨h5, (h3 c h5).1 hc⟩⟩
theorem FrDone.same {f : FuncD} {L M : List (List Nat)} (h : FrDone f L) (k : FrDone f M) : L = M := by
  refine List.ext_getElem? fun a => ?_
  by_cases ha : a < f.blocks.length
  · obtain ⟨l, hl⟩ : ∃ l, L[a]? = some l := ⟨_, List.getElem?_eq_getElem (by rw [h.1]; exact ha)⟩
    obtain ⟨m, hm⟩ : ∃ m, M[a]? = some m := ⟨_, List.getElem?_eq_getElem (by rw [k.1]; exact ha)⟩
    obtain ⟨h1, h2⟩ := h.2 a l hl
    obtain ⟨k1, k2⟩ := k.2 a m hm
    rw [hl, hm, asc_eq h1 k1 fun x => (h2 x).trans (k2 x).symm]
  · rw [List.getElem?_eq_none (by rw [h.1]; omega), List.getElem?_eq_none (by rw [k.1]; omega)]

/-- A block's parent as the program has it. -/
def encO : Option Nat → Int
  | none => -1
  | some p => p
theorem encI_atO {n b : Nat} {I : Nat → Option Nat} (h : b < n) : (encI n I)[b]? = some (encO (I b)) := by
  rw [encI_at h]; cases I b <;> rfl
def Anx (I : Nat → Option Nat) (a : Nat) (x : Int) : Prop := ∃ m : Nat, x = m ∧ Anc I a m
theorem anx_nat {I : Nat → Option Nat} {a m : Nat} : Anx I a (m : Int) ↔ Anc I a m :=
  ⟨fun ⟨k, e, h⟩ => by have : m = k := by omega
                       subst this; exact h, fun h => ⟨m, rfl, h⟩⟩
theorem anx_step {I : Nat → Option Nat} {a m : Nat} : Anc I a m ↔ a = m ∨ Anx I a (encO (I m)) := by
  constructor
  · intro h
    rcases h.parts with e | ⟨p, hp, k⟩
    · exact .inl e
    · rw [hp]; exact .inr ⟨p, rfl, k⟩
  · rintro (e | ⟨k, e, h⟩)
    · subst e; exact .refl
    · cases hI : I m with
      | none => rw [hI] at e; simp only [encO] at e; omega
      | some p =>
        rw [hI] at e
        simp only [encO] at e
        have : p = k := by omega
        subst this
        exact .up hI h
theorem anx_not {tos : Nat → List Nat} {pl : Nat → Nat} {I : Nat → Option Nat} (hT : Tree tos pl I) {m : Nat} : ¬ Anx I m (encO (I m)) := by
  rintro ⟨k, e, h⟩
  cases hI : I m with
  | none => rw [hI] at e; simp only [encO] at e; omega
  | some p =>
    rw [hI] at e
    simp only [encO] at e
    have : p = k := by omega
    subst this
    have h1 := h.le' hT
    have h2 := (hT.par hI).2.2.1
    omega
/-- What has been passed on the way up. -/
def Passed (I : Nat → Option Nat) (P : Nat → Prop) (p : Nat) (x : Int) (a : Nat) : Prop := P a ∨ (Anc I a p ∧ ¬ Anx I a x)
theorem Passed.start {I : Nat → Option Nat} {P : Nat → Prop} {p a : Nat} : P a ↔ Passed I P p (p : Int) a :=
  ⟨.inl, fun h => h.elim id fun h => absurd (anx_nat.2 h.1) h.2⟩
theorem Passed.step {tos : Nat → List Nat} {pl : Nat → Nat} {I : Nat → Option Nat} (hT : Tree tos pl I) {P : Nat → Prop} {p m a : Nat} (hm : Anc I m p) : (Passed I P p (m : Int) a ∨ a = m) ↔ Passed I P p (encO (I m)) a := by
  unfold Passed
  rw [anx_nat, anx_step (m := m)]
  constructor
  · rintro ((h | ⟨h1, h2⟩) | e)
    · exact .inl h
    · exact .inr ⟨h1, fun h => h2 (.inr h)⟩
    · subst e; exact .inr ⟨hm, anx_not hT⟩
  · rintro (h | ⟨h1, h2⟩)
    · exact .inl (.inl h)
    · by_cases e : a = m
      · exact .inr e
      · exact .inl (.inr ⟨h1, fun h => h.elim e h2⟩)
/-- The way up stops at b's parent. -/
theorem front_end {f : FuncD} {O : List Nat} {I : Nat → Option Nat} (hD : DomI f O I) {p b a : Nat} (hp : Way (toB f) (-1) p) (hb : b ∈ toB f p) : (Anc I a p ∧ ¬ Anx I a (encO (I b))) ↔ (OverP f a p ∧ (a = b ∨ ¬ OverP f a b)) := by
  have hwb : Way (toB f) (-1) b := .step hp hb (by omega)
  rw [hD.over hp, ← hD.over hwb]
  constructor
  · rintro ⟨h1, h2⟩
    refine ⟨h1, ?_⟩
    rcases Classical.em (Anc I a b) with h | h
    · exact .inl ((anx_step.1 h).resolve_right h2)
    · exact .inr h
  · rintro ⟨h1, h2⟩
    refine ⟨h1, fun h => ?_⟩
    rcases h2 with e | e
    · subst e; exact anx_not hD.tree h
    · exact e (anx_step.2 (.inr h))
/-- b's parent is over each that goes to b. -/
theorem idom_over {f : FuncD} {O : List Nat} {I : Nat → Option Nat} (hD : DomI f O I) {p b q : Nat} (hp : Way (toB f) (-1) p) (hb : b ∈ toB f p) (hq : I b = some q) : Anc I q p := by
  have hwb : Way (toB f) (-1) b := .step hp hb (by omega)
  have h1 : OverP f q b := (hD.over hwb).1 (.up hq .refl)
  refine (hD.over hp).2 ⟨h1.1, hp, fun hw => h1.2.2 (.step hw hb fun e => ?_)⟩
  have h2 := (hD.tree.par hq).2.2.1
  have : b = q := by omega
  subst this
  omega
/-- Those of the first preds. -/
def PredP (f : FuncD) (b : Nat) (ps : List Nat) (a : Nat) : Prop := ∃ p ∈ ps, Way (toB f) (-1) p ∧ OverP f a p ∧ (a = b ∨ ¬ OverP f a b)
theorem PredP.snoc {f : FuncD} {b p a : Nat} {ps : List Nat} : PredP f b (ps ++ [p]) a ↔ (PredP f b ps a ∨ (Way (toB f) (-1) p ∧ OverP f a p ∧ (a = b ∨ ¬ OverP f a b))) := by
  constructor
  · rintro ⟨q, hq, h⟩
    rcases List.mem_append.1 hq with hq | hq
    · exact .inl ⟨q, hq, h⟩
    · simp at hq; subst hq; exact .inr h
  · rintro (⟨q, hq, h⟩ | h)
    · exact ⟨q, List.mem_append.2 (.inl hq), h⟩
    · exact ⟨p, by simp, h⟩
theorem PredP.all {f : FuncD} {b a : Nat} {ps : List Nat} (hps : ∀ p, Way (toB f) (-1) p → (p ∈ ps ↔ b ∈ toB f p)) : PredP f b ps a ↔ FrontP f a b :=
  ⟨fun ⟨p, h1, h2, h3⟩ => ⟨p, h2, (hps p h2).1 h1, h3⟩, fun ⟨p, h1, h2, h3⟩ => ⟨p, (hps p h1).2 h2, h1, h3⟩⟩
theorem front_not {f : FuncD} {a b : Nat} (h : ¬ Way (toB f) (-1) b) : ¬ FrontP f a b := fun ⟨p, h1, h2, _⟩ => h (.step h1 h2 (by omega))
end Go.Proofs.Ytefpmjnimnmniaa
