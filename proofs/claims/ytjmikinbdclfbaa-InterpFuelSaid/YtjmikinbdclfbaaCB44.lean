/- What the claim needs, part 44. -/
import Derived.Test.YtjmikinbdclfbaaCB6
namespace Go.Proofs.Ytjmikinbdclfbaa
set_option linter.unusedSimpArgs false
set_option linter.unusedVariables false
open Go.RowKit
def Ext (s s' : RunS) : Prop := s.steps ≤ s'.steps ∧ (∃ l, s'.out = s.out ++ l) ∧ s.checks ≤ s'.checks
theorem Ext.refl (s : RunS) : Ext s s := ⟨Nat.le_refl _, ⟨[], by simp⟩, Nat.le_refl _⟩
theorem Ext.trans {a b c : RunS} (h : Ext a b) (k : Ext b c) : Ext a c := by
  obtain ⟨h1, ⟨l, h2⟩, h3⟩ := h
  obtain ⟨k1, ⟨m, k2⟩, k3⟩ := k
  exact ⟨Nat.le_trans h1 k1, ⟨l ++ m, by rw [k2, h2, List.append_assoc]⟩, Nat.le_trans h3 k3⟩
def Quiet (s : RunS) (r : Res Int) : Prop := Ext s r.st ∧ r.st.steps = s.steps ∧ ∀ o s', r = .over o s' → o.how ≠ 3
theorem Quiet.go {s s' : RunS} {v : Int} (h : Ext s s') (hs : s'.steps = s.steps) : Quiet s (.go v s') := ⟨h, hs, fun o s' e => by cases e⟩
theorem Quiet.over {s s' : RunS} {o : OverD} (h : Ext s s') (hs : s'.steps = s.steps) (ho : o.how ≠ 3) : Quiet s (.over o s') := ⟨h, hs, fun o s' e => by cases e; exact ho⟩
theorem lookS_ext (op : Int) (s : RunS) : Ext s (lookS op s) ∧ (lookS op s).steps = s.steps := by
  unfold lookS
  split
  · exact ⟨⟨Nat.le_refl _, ⟨[], by simp⟩, Nat.le_succ _⟩, rfl⟩
  · exact ⟨Ext.refl s, rfl⟩
theorem wildO_how (op : Int) : (wildO op).how ≠ 3 := by
  unfold wildO
  split
  · show (2 : Int) ≠ 3; omega
  · show (5 : Int) ≠ 3; omega
theorem elemS_cases (op n i : Int) (s : RunS) : elemS op n i s = .over (wildO op) (lookS op s) ∨ elemS op n i s = .go () (lookS op s) := by
  unfold elemS
  split
  · exact .inl rfl
  · exact .inr rfl
theorem instrS_quiet (x : InstrD) (s : RunS) : Quiet s (instrS x s) := by
  have hl := lookS_ext x.op s
  unfold instrS
  split
  · exact .go (Ext.refl s) rfl
  split
  · exact .go (Ext.refl s) rfl
  split
  · rcases elemS_cases x.op x.n ((x.args.map s.vals).getD 0 0) s with h | h
    · rw [h]; exact .over hl.1 hl.2 (wildO_how _)
    · rw [h]; exact .go hl.1 hl.2
  split
  · rcases elemS_cases x.op x.n ((x.args.map s.vals).getD 0 0) s with h | h
    · rw [h]; exact .over hl.1 hl.2 (wildO_how _)
    · rw [h]; exact .go hl.1 hl.2
  split
  · split
    · exact .over (Ext.refl s) rfl (by show (4 : Int) ≠ 3; omega)
    · exact .go ⟨Nat.le_refl _, ⟨_, rfl⟩, Nat.le_refl _⟩ rfl
  split
  · exact .go (Ext.refl s) rfl
  split
  · exact .go ⟨Nat.le_refl _, ⟨[], by simp⟩, Nat.le_refl _⟩ rfl
  split
  · exact .over (Ext.refl s) rfl (by show (2 : Int) ≠ 3; omega)
  · exact .go (Ext.refl s) rfl
def More {α : Type} (a : Nat) (r r' : Res α) : Prop := match r with
  | .go x s => r' = .go x s ∧ s.steps ≤ a
  | .over o s => (o.how ≠ 3 ∧ r' = .over o s) ∨ (o = ⟨3, 0, 0⟩ ∧ s.steps = a ∧ Ext s r'.st)
theorem stepS_ext (fuel : Nat) (s : RunS) : Ext s (stepS fuel s).st := by
  unfold stepS
  split
  · exact Ext.refl s
  · exact ⟨Nat.le_succ _, ⟨[], by simp [Res.st]⟩, Nat.le_refl _⟩
theorem stepS_more {a b : Nat} (hab : a ≤ b) {s : RunS} (hs : s.steps ≤ a) : More a (stepS a s) (stepS b s) := by
  by_cases h : s.steps = a
  · have h1 : stepS a s = .over ⟨3, 0, 0⟩ s := by unfold stepS; rw [if_pos h]
    rw [h1]
    exact .inr ⟨rfl, h, stepS_ext b s⟩
  · have h1 : stepS a s = .go () { s with steps := s.steps + 1 } := by unfold stepS; rw [if_neg h]
    have h2 : stepS b s = .go () { s with steps := s.steps + 1 } := by unfold stepS; rw [if_neg (by omega)]
    rw [h1, h2]
    exact ⟨rfl, by show s.steps + 1 ≤ a; omega⟩
theorem bind_ext {α β : Type} {r : Res α} {k : α → RunS → Res β} {s : RunS} (h : Ext s r.st) (hk : ∀ x s1, Ext s1 (k x s1).st) : Ext s (r.bind k).st := by
  cases r with
  | go x s1 => exact h.trans (hk x s1)
  | over o s1 => exact h
theorem bind_more {α β : Type} {a : Nat} {r r' : Res α} {k k' : α → RunS → Res β} (h : More a r r') (hk : ∀ x s, s.steps ≤ a → More a (k x s) (k' x s)) (he : ∀ x s, Ext s (k' x s).st) : More a (r.bind k) (r'.bind k') := by
  cases r with
  | go x s =>
    obtain ⟨rfl, hs⟩ := h
    exact hk x s hs
  | over o s =>
    rcases h with ⟨ho, rfl⟩ | ⟨ho, hs, hx⟩
    · exact .inl ⟨ho, rfl⟩
    · exact .inr ⟨ho, hs, bind_ext hx he⟩
theorem more_quiet {a : Nat} {s : RunS} {r : Res Int} (h : Quiet s r) (hs : s.steps ≤ a) : More a r r := by
  cases r with
  | go x s1 => exact ⟨rfl, by rw [show s1.steps = s.steps from h.2.1]; exact hs⟩
  | over o s1 => exact .inl ⟨h.2.2 o s1 rfl, rfl⟩
theorem putS_ext (x : InstrD) (v : Int) (s : RunS) : Ext s (putS x v s) ∧ (putS x v s).steps = s.steps := by
  unfold putS
  split
  · exact ⟨⟨Nat.le_refl _, ⟨[], by simp [setV]⟩, Nat.le_refl _⟩, rfl⟩
  · exact ⟨Ext.refl s, rfl⟩
theorem oneS_ext (fuel : Nat) (x : InstrD) (s : RunS) : Ext s (oneS fuel x s).st := by
  unfold oneS
  exact bind_ext (stepS_ext fuel s) fun _ s1 => bind_ext (instrS_quiet x s1).1 fun v s2 => (putS_ext x v s2).1
theorem oneS_more {a b : Nat} (hab : a ≤ b) (x : InstrD) {s : RunS} (hs : s.steps ≤ a) : More a (oneS a x s) (oneS b x s) := by
  unfold oneS
  refine bind_more (stepS_more hab hs) (fun _ s1 h1 => bind_more (more_quiet (instrS_quiet x s1) h1) (fun v s2 h2 => ⟨rfl, by rw [(putS_ext x v s2).2]; exact h2⟩) fun v s2 => (putS_ext x v s2).1) fun _ s1 => bind_ext (instrS_quiet x s1).1 fun v s2 => (putS_ext x v s2).1
theorem codeS_ext (fuel : Nat) : ∀ (xs : List InstrD) (s : RunS), Ext s (codeS fuel xs s).st
  | [], s => Ext.refl s
  | x :: xs, s => bind_ext (oneS_ext fuel x s) fun _ s1 => codeS_ext fuel xs s1
theorem codeS_more {a b : Nat} (hab : a ≤ b) : ∀ (xs : List InstrD) {s : RunS}, s.steps ≤ a → More a (codeS a xs s) (codeS b xs s)
  | [], s, hs => ⟨rfl, hs⟩
  | x :: xs, s, hs => bind_more (oneS_more hab x hs) (fun _ s1 h1 => codeS_more hab xs h1) fun _ s1 => codeS_ext b xs s1
theorem endR_quiet (t : TermD) (s : RunS) : Quiet s (endR t s) := by
  unfold endR
  split
  · exact .over (Ext.refl s) rfl (by show (1 : Int) ≠ 3; omega)
  split
  · exact .over (Ext.refl s) rfl (by show (2 : Int) ≠ 3; omega)
  split
  · exact .go (Ext.refl s) rfl
  · exact .go (Ext.refl s) rfl
theorem putsS_ext : ∀ (pv : List (PhiD × Int)) (s : RunS), Ext s (putsS s pv) ∧ (putsS s pv).steps = s.steps
  | [], s => ⟨Ext.refl s, rfl⟩
  | q :: pv, s => by
    have h := putsS_ext pv (setV s q.1.id q.2)
    exact ⟨Ext.trans ⟨Nat.le_refl _, ⟨[], by simp [setV]⟩, Nat.le_refl _⟩ h.1, h.2⟩
theorem phisR_ext (b : BlockD) (src : Int) (at_ : Nat) (s : RunS) : Ext s (phisR b src (visitS at_ s)) ∧ (phisR b src (visitS at_ s)).steps = s.steps := by
  unfold phisR
  have h := putsS_ext (b.phis.map fun p => (p, phiV src (visitS at_ s) p)) (visitS at_ s)
  exact ⟨Ext.trans ⟨Nat.le_refl _, ⟨[], by simp [visitS]⟩, Nat.le_refl _⟩ h.1, h.2⟩
theorem blockR_ext (f : FuncD) (fuel : Nat) (src : Int) (at_ : Nat) (s : RunS) : Ext s (blockR f fuel src at_ s).st := by
  unfold blockR
  exact (phisR_ext _ src at_ s).1.trans (bind_ext (codeS_ext fuel _ _) fun _ s1 => bind_ext (stepS_ext fuel s1) fun _ s2 => (endR_quiet _ s2).1)
theorem blockR_more {f : FuncD} {a b : Nat} (hab : a ≤ b) (src : Int) (at_ : Nat) {s : RunS} (hs : s.steps ≤ a) : More a (blockR f a src at_ s) (blockR f b src at_ s) := by
  unfold blockR
  refine bind_more (codeS_more hab _ (by rw [(phisR_ext _ src at_ s).2]; exact hs)) (fun _ s1 h1 => bind_more (stepS_more hab h1) (fun _ s2 h2 => more_quiet (endR_quiet _ s2) h2) fun _ s2 => (endR_quiet _ s2).1) fun _ s1 => bind_ext (stepS_ext b s1) fun _ s2 => (endR_quiet _ s2).1
theorem runN_ext {f : FuncD} {fuel : Nat} : ∀ {n : Nat} {src : Int} {at_ : Nat} {s s' : RunS} {o : OverD}, runN f fuel n src at_ s = some (o, s') → Ext s s'
  | 0, _, _, _, _, _, h => by simp [runN] at h
  | n + 1, src, at_, s, s', o, h => by
    have hx := blockR_ext f fuel src at_ s
    unfold runN at h
    cases hb : blockR f fuel src at_ s with
    | over o1 s1 =>
      rw [hb] at h hx
      injection h with e
      injection e with e1 e2
      rw [← e2]; exact hx
    | go to s1 =>
      rw [hb] at h hx
      exact Ext.trans hx (runN_ext h)
theorem runs_more {f : FuncD} {a b : Nat} (hab : a ≤ b) : ∀ {n : Nat} {src : Int} {at_ : Nat} {s s' : RunS} {o : OverD}, s.steps ≤ a → runN f a n src at_ s = some (o, s') →
    (o.how ≠ 3 ∧ Runs f b src at_ s o s') ∨ (o = ⟨3, 0, 0⟩ ∧ s'.steps = a ∧ ∀ o' s'', Runs f b src at_ s o' s'' → Ext s' s'')
  | 0, _, _, _, _, _, _, h => by simp [runN] at h
  | n + 1, src, at_, s, s', o, hs, h => by
    have hm := blockR_more (f := f) hab src at_ hs
    unfold runN at h
    cases hb : blockR f a src at_ s with
    | over o1 s1 =>
      rw [hb] at h hm
      injection h with e
      injection e with e1 e2
      rw [← e1, ← e2]
      rcases hm with ⟨ho, hr⟩ | ⟨ho, hst, hx⟩
      · exact .inl ⟨ho, Runs.over hr⟩
      · refine .inr ⟨ho, hst, fun o' s'' hr => ?_⟩
        rcases hr.cases with hq | ⟨to, s2, hq, hr2⟩
        · rw [hq] at hx; exact hx
        · rw [hq] at hx
          obtain ⟨m, hr2⟩ := hr2
          exact Ext.trans hx (runN_ext hr2)
    | go to s1 =>
      rw [hb] at h hm
      obtain ⟨hq, hs1⟩ := hm
      rcases runs_more hab hs1 h with ⟨ho, hr⟩ | ⟨ho, hst, hx⟩
      · exact .inl ⟨ho, Runs.go hq hr⟩
      · refine .inr ⟨ho, hst, fun o' s'' hr => ?_⟩
        rcases hr.cases with hq2 | ⟨to2, s2, hq2, hr2⟩
        · rw [hq] at hq2; cases hq2
        · rw [hq] at hq2
          injection hq2 with e1 e2
          subst e1
          subst e2
          exact hx o' s'' hr2
end Go.Proofs.Ytjmikinbdclfbaa
